/- Part 12 of what the law LeastMakes rests on. -/
import Derived.Test.YthiknkcigcglkaaGreatDoorPkLe1
import Derived.Test.YthiknkcigcglkaaGreatDoorPkLe2
import Derived.Test.YthiknkcigcglkaaGreatDoorPkLe3
import Derived.Test.YthiknkcigcglkaaGreatDoorPkLe4
import Derived.Test.YthiknkcigcglkaaGreatDoorPkLe5
import Derived.Test.YthiknkcigcglkaaGreatDoorPkLe6
import Derived.Test.YthiknkcigcglkaaGreatDoorPkLe7
import Derived.Test.YthiknkcigcglkaaGreatDoorPkLe8
import Derived.Test.YthiknkcigcglkaaGreatDoorPkLe9
import Derived.Test.YthiknkcigcglkaaGreatDoorPkLe10
import Derived.Test.YthiknkcigcglkaaGreatDoorPkLe11
namespace Go.Proofs.YthiknkcigcglkaaGreatDoor
open Go.RowKit
set_option linter.unusedSimpArgs false
set_option linter.unusedVariables false
set_option maxRecDepth 100000
set_option maxHeartbeats 8000000
def FS : Fam St := ⟨47, 4, 32, fun s => [.p (.int .i64 s.fin)], fun s => s.arcs.map arD⟩
theorem fs_cells_len (P : List St) : (FS.cells 1000 P).length = P.length * 2 := Fam.cells_len (fun _ => rfl) P 1000
theorem fs_row (f : Int) (R : List Ar) : FS.row ⟨f, R⟩ = ⟨47, R.flatMap arV2, decide (R.length = 0), 4⟩ := by
 have h1 : (R.map arD).flatten.map V.d = R.flatMap arV2 := by induction R with | nil => rfl | cons x l ih => simp only [List.map_cons, List.flatten_cons, List.map_append, ih, List.flatMap_cons]
 have h2 : (R.map arD).isEmpty = decide (R.length = 0) := by cases R <;> rfl
 simp only [Fam.row, FS, h1, h2]
theorem am_TrimF (m : Mach) (h0 : machE m = 0) : FnO Tryz.prog 33 [mV m] (fun v H => v = .tup [.agg [.i (trimM m).start, .own 901 2 (trimM m).states.length (decide ((trimM m).states.length = 0))], .i 0] ∧ H = (901, ⟨35, FS.cells 1000 (trimM m).states, decide ((trimM m).states.length = 0), 2⟩) :: FS.objs 1000 (trimM m).states) := by
 refine FnO.mach m 0 rfl fun hb hal => ?_
 obtain ⟨hz1, hz2, hz3, hz⟩ := machE_zero h0
 have hT : trimM m = ⟨pl (tKept m) m.start, (tKept m).map fun q => tState (tKept m) (m.states.getD q ⟨0, []⟩)⟩ := by unfold trimM; rw [if_pos h0]
 have hAl := aheadL_len h0
 have hBl := backL_len h0
 obtain ⟨A, hA⟩ : ∃ A, aheadL m = A := ⟨_, rfl⟩
 obtain ⟨B, hB⟩ : ∃ B, backL m = B := ⟨_, rfl⟩
 have hK : ∀ q a b, A[q]? = some a → B[q]? = some b → tKeep m q = (a && b) := fun q a b ha hb => tKeep_of (by rw [hA]; exact ha) (by rw [hB]; exact hb)
 have hkept : tKept m = (List.range m.states.length).filter (tKeep m) := rfl
 obtain ⟨K, hKd⟩ : ∃ K, tKeep m = K := ⟨_, rfl⟩
 obtain ⟨kept, hkd⟩ : ∃ kept, tKept m = kept := ⟨_, rfl⟩
 obtain ⟨T, hTd⟩ : ∃ T, trimM m = T := ⟨_, rfl⟩
 rw [hKd] at hK hkept
 rw [hkd] at hkept hT
 rw [hTd] at hT ⊢
 obtain ⟨st, sts⟩ := m
 simp only at hz1 hz2 hz3 hz hb hal hAl hBl hkept hT
 rw [hA] at hAl
 rw [hB] at hBl
 obtain ⟨n, hn⟩ : ∃ n, sts.length = n := ⟨_, rfl⟩
 rw [hn] at hz1 hz3 hz hb hAl hBl hkept
 refine FnO.intro (n := 118) ⟨Tryz.func33, rfl, rfl, rfl, rfl⟩ zT8 zT16 fun w0 out => ?_
 apply AW.sr
 refine AL.sm rfl (sm_box 1 rfl rfl rfl rfl rfl) ?_
 refine AL.sm rfl (sm_alloc (l := [.d (.p (.int .i64 0)), .d (.p (.slice none 0 0))]) 2 inf24 rfl rfl rfl rfl) ?_
 refine AL.z ?_
 apply AL.nil
 try simp only [nd, setL, V.cs, nz, Nat.reduceAdd, nm, ns, enum]
 apply AW.sr
 refine AL.z ?_
 refine AL.call (post := ?pc33) rfl (sm_call (args := [_]) ?hc33 ⟨Tryz.func71, rfl, rfl, rfl, rfl⟩ rfl rfl rfl rfl) ?_
 case hc33 => exact Fn.eqv (am_Ahead ⟨st, sts⟩) (by rw [hA, h0])
 rintro _ rfl -
 try dsimp only
 iterate 5 refine AL.z ?_
 apply AL.nil
 try simp only [nd, setL, V.cs, nz, Nat.reduceAdd, nm, ns]
 apply AW.seq
 apply AW.sr
 iterate 2 refine AL.z ?_
 apply AL.nil
 try simp only [thenS, S.put, List.nil_append, List.cons_append]
 refine AW.condF rfl ?_
 apply AW.skip
 try simp only [thenS, List.nil_append, List.cons_append]
 apply AW.sr
 refine AL.z ?_
 refine AL.call (post := ?pc34) rfl (sm_call (args := [_]) ?hc34 ⟨Tryz.func72, rfl, rfl, rfl, rfl⟩ rfl rfl rfl rfl) ?_
 case hc34 => exact Fn.eqv (am_Back ⟨st, sts⟩) (by rw [hB, h0])
 rintro _ rfl -
 try dsimp only
 iterate 5 refine AL.z ?_
 apply AL.nil
 try simp only [nd, setL, V.cs, nz, Nat.reduceAdd, nm, ns]
 apply AW.sr
 iterate 3 refine AL.z ?_
 refine AL.sm rfl (sm_make_map 34 V.i (0) Tryz.underlying42 inf3 rfl rfl rfl rfl rfl zT15 zT14 rfl rfl) ?_
 refine AL.z ?_
 apply AL.nil
 try simp only [nd, setL, V.cs, nz, Nat.reduceAdd, nm, ns]
 apply AW.sr
 refine AL.z ?_
 apply AL.nil
 try simp only [thenS, S.put, List.nil_append, List.cons_append]
 apply AW.seq
 apply AW.sr
 iterate 4 refine AL.z ?_
 apply AL.nil
 try simp only [thenS, S.put, List.nil_append, List.cons_append]
 apply AW.block
 have hpl : ∀ q, q < n → pl kept (q : Int) = if K q then (((List.range q).filter K).length : Int) else -1 := fun q hq => by rw [hkept]; exact pl_filter hq
 refine AW.loop (fun s' => ∃ (k : Nat) (N : List Int), k ≤ n ∧ N.length = n ∧ (∀ q, q < k → N[q]? = some (pl kept q)) ∧ s' = ⟨118, [(1, .ref 1 0), (2, .ref 2 0), (4, .d (boolsD A)), (6, .d (boolsD B)), (8, .own 34 1 n false), (9, .i ((List.range k).filter K).length), (37, .i n), (38, .i k)], [(1, ⟨24, [.i st, .d (stsD sts)], false, 0⟩), (2, ⟨24, [.i 0, .nil], false, 0⟩), (34, ⟨3, N.map V.i, false, 1⟩)], []⟩) (fun s' => n - s'.nat 38) ⟨_, ?_, 0, List.replicate n 0, by omega, by simp, (fun q h => absurd h zT15), rfl⟩ ?_
 ·exact Less.a1
 rintro s' ⟨k, N, hk, hN, hNq, rfl⟩
 have hlk := filter_range_len K k
 by_cases hlt : k < n
 ·obtain ⟨a, ha⟩ := get_lt hAl hlt
  obtain ⟨b, hb'⟩ := get_lt hBl hlt
  have hKk := hK k a b ha hb'
  have hplk := hpl k hlt
  have hsk := filter_range_succ K k
  have hkN : k < N.length := by omega
  have hkN2 : k < (N.set k (-1)).length := by simpa using hkN
  have hstep : ∀ v : Int, v = pl kept k → ∀ q, q < k + 1 → (N.set k v)[q]? = some (pl kept q) := by
   intro v hv q hq
   rw [List.getElem?_set]
   by_cases e : k = q
   ·subst e; simp [hkN, hv]
   rw [if_neg e]; exact hNq q zT15
  have hstep2 : ∀ v : Int, v = pl kept k → ∀ q, q < k + 1 → ((N.set k (-1)).set k v)[q]? = some (pl kept q) := by
   intro v hv q hq
   rw [List.set_set]
   exact hstep v hv q hq
  cases a with
  | true =>
   cases b with
   | true =>
    simp only [hKk, Bool.and_self, if_true] at hsk hplk
    apply AW.sr
    refine AL.z ?_
    apply AL.nil
    try simp only [thenS, S.put, List.nil_append, List.cons_append]
    apply AW.seq
    refine AW.condT rfl ?_
    apply AW.skip
    try simp only [thenS, List.nil_append, List.cons_append]
    apply AW.seq
    apply AW.block
    apply AW.sr
    iterate 2 refine AL.z ?_
    apply AL.nil
    try simp only [thenS, S.put, List.nil_append, List.cons_append]
    apply AW.sr
    iterate 3 refine AL.z ?_
    refine AL.st rfl (st_store_map2 inf3 rfl rfl rfl rfl rfl rfl rfl rfl zT9) ?_
    apply AL.nil
    try simp only [nd, setL, V.cs, nz, Nat.reduceAdd, nm, ns]
    apply AW.sr
    iterate 5 refine AL.z ?_
    iterate 4 refine AL.zy ?_
    refine AL.z ?_
    apply AL.nil
    try simp only [thenS, S.put, List.nil_append, List.cons_append]
    refine AW.condT rfl ?_
    apply AW.sr
    iterate 4 refine AL.z ?_
    refine AL.st rfl (st_store_map2 inf3 rfl rfl rfl rfl rfl rfl rfl rfl zT9) ?_
    apply AL.nil
    try simp only [nd, setL, V.cs, nz, Nat.reduceAdd, nm, ns]
    apply AW.region
    iterate 3 refine AL.z ?_
    apply AL.nil
    try simp only [thenS, S.put, List.nil_append, List.cons_append]
    apply AW.region
    iterate 2 refine AL.z ?_
    apply AL.nil
    try simp only [thenS, S.put, List.nil_append, List.cons_append]
    refine ⟨_, ?_, ⟨k + 1, _, by omega, by simpa using hN, hstep2 _ hplk.symm, rfl⟩, ?_⟩
    ·rw [hsk]
     simp only [List.length_append, List.length_cons, List.length_nil, Nat.zero_add]
     exact Less.a1
    simp [S.nat, fnd]; omega
   | false =>
    simp only [hKk, Bool.and_false, Bool.false_eq_true, if_false, List.append_nil] at hsk hplk
    apply AW.sr
    refine AL.z ?_
    apply AL.nil
    try simp only [thenS, S.put, List.nil_append, List.cons_append]
    apply AW.seq
    refine AW.condT rfl ?_
    apply AW.skip
    try simp only [thenS, List.nil_append, List.cons_append]
    apply AW.seq
    apply AW.block
    apply AW.sr
    iterate 2 refine AL.z ?_
    apply AL.nil
    try simp only [thenS, S.put, List.nil_append, List.cons_append]
    apply AW.sr
    iterate 3 refine AL.z ?_
    refine AL.st rfl (st_store_map2 inf3 rfl rfl rfl rfl rfl rfl rfl rfl zT9) ?_
    apply AL.nil
    try simp only [nd, setL, V.cs, nz, Nat.reduceAdd, nm, ns]
    apply AW.sr
    iterate 5 refine AL.z ?_
    iterate 4 refine AL.zy ?_
    refine AL.z ?_
    apply AL.nil
    try simp only [thenS, S.put, List.nil_append, List.cons_append]
    refine AW.condF rfl ?_
    apply AW.skip
    try simp only [thenS, List.nil_append, List.cons_append]
    apply AW.region
    iterate 2 refine AL.z ?_
    apply AL.nil
    try simp only [thenS, S.put, List.nil_append, List.cons_append]
    refine ⟨_, ?_, ⟨k + 1, _, by omega, by simpa using hN, hstep _ hplk.symm, rfl⟩, ?_⟩
    ·rw [hsk]
     exact Less.a1
    simp [S.nat, fnd]; omega
  | false =>
   simp only [hKk, Bool.false_and, Bool.false_eq_true, if_false, List.append_nil] at hsk hplk
   apply AW.sr
   refine AL.z ?_
   apply AL.nil
   try simp only [thenS, S.put, List.nil_append, List.cons_append]
   apply AW.seq
   refine AW.condT rfl ?_
   apply AW.skip
   try simp only [thenS, List.nil_append, List.cons_append]
   apply AW.seq
   apply AW.block
   apply AW.sr
   iterate 2 refine AL.z ?_
   apply AL.nil
   try simp only [thenS, S.put, List.nil_append, List.cons_append]
   apply AW.sr
   iterate 3 refine AL.z ?_
   refine AL.st rfl (st_store_map2 inf3 rfl rfl rfl rfl rfl rfl rfl rfl zT9) ?_
   apply AL.nil
   try simp only [nd, setL, V.cs, nz, Nat.reduceAdd, nm, ns]
   apply AW.sr
   iterate 5 refine AL.z ?_
   refine AL.no rfl rfl rfl rfl ?_
   refine AL.no rfl rfl rfl rfl ?_
   refine AL.no rfl rfl rfl rfl ?_
   refine AL.no rfl rfl rfl rfl ?_
   refine AL.z ?_
   apply AL.nil
   try simp only [thenS, S.put, List.nil_append, List.cons_append]
   refine AW.condF rfl ?_
   apply AW.skip
   try simp only [thenS, List.nil_append, List.cons_append]
   apply AW.region
   iterate 2 refine AL.z ?_
   apply AL.nil
   try simp only [thenS, S.put, List.nil_append, List.cons_append]
   refine ⟨_, ?_, ⟨k + 1, _, by omega, by simpa using hN, hstep _ hplk.symm, rfl⟩, ?_⟩
   ·rw [hsk]
    exact Less.a1
   simp [S.nat, fnd]; omega
 obtain rfl : k = n := by omega
 rw [← hkept] at hlk
 obtain ⟨c, hc⟩ : ∃ c, kept.length = c := ⟨_, rfl⟩
 rw [hc] at hlk
 apply AW.sr
 refine AL.z ?_
 apply AL.nil
 try simp only [thenS, S.put, List.nil_append, List.cons_append]
 apply AW.seq
 refine AW.condF rfl ?_
 refine AW.exit ?_
 try simp only [thenS, inBlockS, ↓reduceIte, Nat.reduceEqDiff, List.nil_append, List.cons_append]
 apply AW.seq
 refine AW.freeze 8 8 (N.map fun x => [.p (.int .i64 x)]) rfl rfl rfl (by rw [List.length_map, hN]) zT15 (rows1 rfl) ?_
 refine AW.less (s' := ⟨118, [(1, .ref 1 0), (2, .ref 2 0), (8, .d (intsD N))], [(1, ⟨24, [.i st, .d (stsD sts)], false, 0⟩), (2, ⟨24, [.i 0, .nil], false, 0⟩)], []⟩) Less.a1 ?_
 apply AW.region
 refine AL.rp rfl rfl (rp_build (vs := [(0, _)]) (zs := [.d (.p (.int .i64 0)), .d (.p (.slice none 0 0))]) pl24 inf24 rfl rfl rfl rfl) ?_
 refine AL.sm rfl (sm_alloc (l := [.d (.p (.int .i64 0)), .d (.p (.slice none 0 0))]) 11 inf24 rfl rfl rfl rfl) ?_
 refine AL.y ?_
 apply AL.nil
 try simp only [nd, setL, V.cs, nz, Nat.reduceAdd, nm, ns]
 refine AW.seqc (fun s' => s' = ⟨118, [(1, .ref 1 0), (2, .ref 2 0), (8, .d (intsD N)), (11, .ref 11 0)], [(1, ⟨24, [.i st, .d (stsD sts)], false, 0⟩), (2, ⟨24, [.i 0, .nil], false, 0⟩), (11, ⟨24, [.i (pl kept st), .nil], false, 0⟩)], []⟩) ?_ ?_
 ·skip
  by_cases hs0 : 0 ≤ st
  ·obtain ⟨p, rfl⟩ : ∃ p : Nat, st = p := ⟨st.toNat, by omega⟩
   have hNp := hNq p zT15
   apply AW.sr
   iterate 3 refine AL.z ?_
   apply AL.nil
   try simp only [thenS, S.put, List.nil_append, List.cons_append]
   refine AW.condT rfl ?_
   apply AW.region
   iterate 6 refine AL.z ?_
   (refine AL.st rfl (st_store inf3 rfl rfl rfl rfl rfl rfl rfl zT7 rfl) ?_)
   apply AL.nil
   try simp only [nd, setL, V.cs, nz, Nat.reduceAdd, nm, ns]
   refine ⟨_, ?_, rfl⟩
   exact Less.a1
  have hpn : pl kept st = -1 := pl_neg _ zT15
  apply AW.sr
  iterate 3 refine AL.z ?_
  apply AL.nil
  try simp only [thenS, S.put, List.nil_append, List.cons_append]
  refine AW.condF rfl ?_
  apply AW.skip
  try simp only [thenS, List.nil_append, List.cons_append]
  refine ⟨_, ?_, rfl⟩
  rw [hpn]
  exact Less.a1
 rintro s' rfl
 obtain ⟨n, rfl⟩ : ∃ n, n = k := ⟨_, rfl⟩
 refine AW.adoptH 11 1 901 2 35 rfl rfl rfl zT4 ?_
 apply AW.seq
 apply AW.sr
 iterate 4 refine AL.z ?_
 apply AL.nil
 try simp only [thenS, S.put, List.nil_append, List.cons_append]
 apply AW.block
 refine AW.loop (fun s' => ∃ (k : Nat) (P : List St), k ≤ n ∧ P = (((List.range k).filter K).map fun q => tState kept (sts.getD q ⟨0, []⟩)) ∧ s' = ⟨118, [(1, .ref 1 0), (2, .ref 2 0), (8, .d (intsD N)), (11, .ref 11 0), (72, .d (stsD sts)), (73, .i n), (74, .i k)], [(1, ⟨24, [.i st, .d (stsD sts)], false, 0⟩), (2, ⟨24, [.i 0, .nil], false, 0⟩), (11, ⟨24, [.i (pl kept st), .own 901 2 P.length (decide (P.length = 0))], false, 0⟩), (901, ⟨35, FS.cells 1000 P, decide (P.length = 0), 2⟩)] ++ FS.objs 1000 P, []⟩) (fun s' => n - s'.nat 74) ⟨_, ?_, 0, [], by omega, rfl, rfl⟩ ?_
 ·exact Less.a1
 rintro s' ⟨k, P, hk, hP, rfl⟩
 have hlk := filter_range_len K k
 have hPl : P.length ≤ k := by rw [hP, List.length_map]; exact hlk
 by_cases hlt : k < n
 ·obtain ⟨x, hx⟩ := get_lt hn hlt
  have hNk := hNq k hlt
  have hplk := hpl k hlt
  have hsk := filter_range_succ K k
  by_cases hKk : K k = true
  ·rw [if_pos hKk] at hplk hsk
   have hpos : ¬ pl kept k < 0 := by rw [hplk]; omega
   obtain ⟨la, hla⟩ : ∃ n, x.arcs.length = n := ⟨_, rfl⟩
   have hla' := Nat.le_trans (arcN_mem sts x (List.mem_of_getElem? hx)) hz2
   rw [hla] at hla'
   have hxd : sts.getD k ⟨0, []⟩ = x := by simp [List.getD_eq_getElem?_getD, hx]
   have hPs : P ++ [⟨x.fin, x.arcs.filterMap (tArc kept)⟩] = (((List.range (k + 1)).filter K).map fun q => tState kept (sts.getD q ⟨0, []⟩)) := by
    rw [hsk, List.map_append, ← hP, List.map_cons, List.map_nil, hxd]; rfl
   have hfl := fs_cells_len P
   apply AW.sr
   refine AL.z ?_
   apply AL.nil
   try simp only [thenS, S.put, List.nil_append, List.cons_append]
   apply AW.seq
   refine AW.condT rfl ?_
   apply AW.skip
   try simp only [thenS, List.nil_append, List.cons_append]
   apply AW.seq
   apply AW.block
   apply AW.sr
   iterate 3 refine AL.z ?_
   refine AL.sm rfl (sm_alloc (l := [.d (.p (.int .i64 0)), .d (.p (.slice none 0 0))]) 13 inf35 rfl (by first | rfl | (simp only [S.clean, S.put, S.newObj, List.all_cons, objs_clean_low, Nat.reduceLT]; simp [S.forget, V.has, V.hasL, junkIf, setL, V.cs, hasL_i, hasL_b, hasL_s, hasL_n, hasL_rep, hasL_flat, hasL_append, cells_hasL_low, has_ownV, hasL_frep, nb1, nb2, nb3, nb4, -List.map_set]; try omega)) rfl rfl) ?_
   refine AL.z ?_
   refine AL.y ?_
   apply AL.nil
   try simp only [nd, setL, V.cs, nz, Nat.reduceAdd, nm, ns]
   apply AW.seq
   apply AW.sr
   iterate 5 refine AL.z ?_
   apply AL.nil
   try simp only [thenS, S.put, List.nil_append, List.cons_append]
   refine AW.condF rfl ?_
   apply AW.skip
   try simp only [thenS, List.nil_append, List.cons_append]
   apply AW.sr
   iterate 2 refine AL.z ?_
   refine AL.rp rfl rfl (rp_build (vs := [(0, _)]) (zs := [.d (.p (.int .i64 0)), .d (.p (.slice none 0 0))]) pl35 inf35 rfl rfl rfl rfl) ?_
   refine AL.sm rfl (sm_alloc (l := [.d (.p (.int .i64 0)), .d (.p (.slice none 0 0))]) 14 inf35 rfl (by first | rfl | (simp only [S.clean, S.put, S.newObj, List.all_cons, objs_clean_low, Nat.reduceLT]; simp [S.forget, V.has, V.hasL, junkIf, setL, V.cs, hasL_i, hasL_b, hasL_s, hasL_n, hasL_rep, hasL_flat, hasL_append, cells_hasL_low, has_ownV, hasL_frep, nb1, nb2, nb3, nb4, -List.map_set]; try omega)) rfl rfl) ?_
   refine AL.y ?_
   apply AL.nil
   try simp only [nd, setL, V.cs, nz, Nat.reduceAdd, nm, ns]
   apply AW.seq
   apply AW.seq
   refine AW.adoptH 14 1 102 4 47 rfl rfl rfl (by simp [S.clean, V.has, V.hasL, V.cs, setL, objs_clean_low, cells_hasL_low]) ?_
   apply AW.region
   iterate 4 refine AL.z ?_
   apply AL.nil
   try simp only [thenS, S.put, List.nil_append, List.cons_append]
   apply AW.block
   refine AW.loop (fun s' => ∃ i : Nat, i ≤ la ∧ s' = ⟨118, [(1, .ref 1 0), (2, .ref 2 0), (8, .d (intsD N)), (11, .ref 11 0), (14, .ref 14 0), (72, .d (stsD sts)), (73, .i n), (74, .i k), (88, .d (arsD x.arcs)), (89, .i la), (90, .i i)], [(1, ⟨24, [.i st, .d (stsD sts)], false, 0⟩), (2, ⟨24, [.i 0, .nil], false, 0⟩), (11, ⟨24, [.i (pl kept st), .own 901 2 P.length (decide (P.length = 0))], false, 0⟩), (901, ⟨35, FS.cells 1000 P, decide (P.length = 0), 2⟩), (14, ⟨35, [.i x.fin, .own 102 4 ((x.arcs.take i).filterMap (tArc kept)).length (decide (((x.arcs.take i).filterMap (tArc kept)).length = 0))], false, 0⟩), (102, ⟨47, ((x.arcs.take i).filterMap (tArc kept)).flatMap arV2, decide (((x.arcs.take i).filterMap (tArc kept)).length = 0), 4⟩)] ++ FS.objs 1000 P, []⟩) (fun s' => la - s'.nat 90) ⟨_, ?_, 0, by omega, rfl⟩ ?_
   ·exact Less.a1
   rintro s' ⟨i, hi, rfl⟩
   have hfm : ((x.arcs.take i).filterMap (tArc kept)).length ≤ la := by
    have := List.length_filterMap_le (tArc kept) (x.arcs.take i)
    rw [List.length_take] at this
    omega
   have hfl2 : (((x.arcs.take i).filterMap (tArc kept)).flatMap arV2).length = ((x.arcs.take i).filterMap (tArc kept)).length * 4 := flat_len (sz := 4) (fun _ => rfl)
   by_cases hil : i < la
   ·obtain ⟨y, hy⟩ := get_lt hla hil
    have hyt := (hz x (List.mem_of_getElem? hx)).2 y (List.mem_of_getElem? hy)
    have hsn2 := filterMap_snoc (tArc kept) hy
    obtain ⟨yi, yo, yw, yt⟩ := y
    simp only [arOk, decide_eq_true_eq] at hyt
    obtain ⟨p, rfl⟩ : ∃ p : Nat, yt = p := ⟨yt.toNat, by omega⟩
    have hNp := hNq p zT15
    by_cases hp : 0 ≤ pl kept p
    ·have hty : tArc kept ⟨yi, yo, yw, p⟩ = some ⟨yi, yo, yw, pl kept p⟩ := by unfold tArc; rw [if_pos hp]
     rw [hty, Option.toList] at hsn2
     apply AW.sr
     refine AL.z ?_
     apply AL.nil
     try simp only [thenS, S.put, List.nil_append, List.cons_append]
     apply AW.seq
     refine AW.condT rfl ?_
     apply AW.skip
     try simp only [thenS, List.nil_append, List.cons_append]
     apply AW.seq
     apply AW.block
     apply AW.sr
     iterate 2 refine AL.z ?_
     refine AL.sm rfl (sm_alloc (l := [.d (.p (.int .i64 0)), .d (.p (.int .i64 0)), .d (.p (.int .i64 0)), .d (.p (.int .i64 0))]) 16 inf47 rfl (by first | rfl | (simp only [S.clean, S.put, S.newObj, List.all_cons, objs_clean_low, Nat.reduceLT]; simp [S.forget, V.has, V.hasL, junkIf, setL, V.cs, hasL_i, hasL_b, hasL_s, hasL_n, hasL_rep, hasL_flat, hasL_append, cells_hasL_low, has_ownV, hasL_frep, nb1, nb2, nb3, nb4, -List.map_set]; try omega)) rfl rfl) ?_
     refine AL.y ?_
     apply AL.nil
     try simp only [nd, setL, V.cs, nz, Nat.reduceAdd, nm, ns]
     apply AW.sr
     iterate 6 refine AL.z ?_
     (refine AL.st rfl (st_store inf3 rfl rfl rfl rfl rfl rfl rfl zT7 rfl) ?_)
     apply AL.nil
     try simp only [nd, setL, V.cs, nz, Nat.reduceAdd, nm, ns]
     apply AW.sr
     iterate 3 refine AL.z ?_
     apply AL.nil
     try simp only [thenS, S.put, List.nil_append, List.cons_append]
     refine AW.condT rfl ?_
     apply AW.region
     iterate 3 refine AL.z ?_
     refine AL.sm rfl (sm_slice (vs := [(0, _)]) (zs := [.d (.p (.int .i64 0)), .d (.p (.int .i64 0)), .d (.p (.int .i64 0)), .d (.p (.int .i64 0))]) 106 Tryz.underlying33 inf47 rfl rfl zT14 zT14 zT14 rfl rfl rfl rfl (by first | rfl | (simp only [S.clean, S.put, S.newObj, List.all_cons, objs_clean_low, Nat.reduceLT]; simp [S.forget, V.has, V.hasL, junkIf, setL, V.cs, hasL_i, hasL_b, hasL_s, hasL_n, hasL_rep, hasL_flat, hasL_append, cells_hasL_low, has_ownV, hasL_frep, nb1, nb2, nb3, nb4, -List.map_set]; try omega)) rfl rfl) ?_
     refine AL.st rfl (st_appendF Tryz.underlying33 inf47 rfl zT14 rfl rfl rfl rfl rfl rfl zT5 (by first | rfl | (simp only [S.clean, S.put, S.newObj, List.all_cons, objs_clean_low, Nat.reduceLT]; simp [S.forget, V.has, V.hasL, junkIf, setL, V.cs, hasL_i, hasL_b, hasL_s, hasL_n, hasL_rep, hasL_flat, hasL_append, cells_hasL_low, has_ownV, hasL_frep, nb1, nb2, nb3, nb4, -List.map_set]; try omega)) rfl rfl rfl rfl rfl rfl rfl zT14 zT15 zT15 rfl) ?_
     simp only [objs_filter_low, Fam.objs_forget, cells_hasL_low, has_ownV, nb3, nb4, Nat.reduceLT, S.forget, S.put, S.newObj, junkIf, V.has, V.hasL, nh, hasL_flat, hasL_append, List.map_cons, List.map_nil, List.filter_cons, List.filter_nil, Nat.reduceBNe, Nat.reduceBEq, eq_self, bne_self_eq_false,  Bool.not_true, Bool.not_false, Bool.or_false, Bool.or_true, Bool.false_or, Bool.true_or, if_true, if_false, Bool.false_eq_true, ite_true, ite_false, ↓reduceIte, beq_self_eq_true, Nat.reduceEqDiff]
     refine AL.z ?_
     (refine AL.st rfl (st_store inf33 rfl rfl rfl rfl rfl rfl rfl zT7 rfl) ?_)
     apply AL.nil
     try simp only [nd, setL, V.cs, nz, Nat.reduceAdd, nm, ns]
     apply AW.region
     iterate 2 refine AL.z ?_
     apply AL.nil
     try simp only [thenS, S.put, List.nil_append, List.cons_append]
     refine ⟨_, ?_, ⟨i + 1, by omega, rfl⟩, ?_⟩
     ·rw [hsn2]
      simp only [List.flatMap_append, List.flatMap_cons, List.flatMap_nil, List.append_nil, List.length_append, List.length_cons, List.length_nil, Nat.zero_add]
      exact Less.a1
     simp [S.nat, fnd]; omega
    have hty : tArc kept ⟨yi, yo, yw, p⟩ = none := by unfold tArc; rw [if_neg hp]
    rw [hty, Option.toList, List.append_nil] at hsn2
    apply AW.sr
    refine AL.z ?_
    apply AL.nil
    try simp only [thenS, S.put, List.nil_append, List.cons_append]
    apply AW.seq
    refine AW.condT rfl ?_
    apply AW.skip
    try simp only [thenS, List.nil_append, List.cons_append]
    apply AW.seq
    apply AW.block
    apply AW.sr
    iterate 2 refine AL.z ?_
    refine AL.sm rfl (sm_alloc (l := [.d (.p (.int .i64 0)), .d (.p (.int .i64 0)), .d (.p (.int .i64 0)), .d (.p (.int .i64 0))]) 16 inf47 rfl (by first | rfl | (simp only [S.clean, S.put, S.newObj, List.all_cons, objs_clean_low, Nat.reduceLT]; simp [S.forget, V.has, V.hasL, junkIf, setL, V.cs, hasL_i, hasL_b, hasL_s, hasL_n, hasL_rep, hasL_flat, hasL_append, cells_hasL_low, has_ownV, hasL_frep, nb1, nb2, nb3, nb4, -List.map_set]; try omega)) rfl rfl) ?_
    refine AL.y ?_
    apply AL.nil
    try simp only [nd, setL, V.cs, nz, Nat.reduceAdd, nm, ns]
    apply AW.sr
    iterate 6 refine AL.z ?_
    (refine AL.st rfl (st_store inf3 rfl rfl rfl rfl rfl rfl rfl zT7 rfl) ?_)
    apply AL.nil
    try simp only [nd, setL, V.cs, nz, Nat.reduceAdd, nm, ns]
    apply AW.sr
    iterate 3 refine AL.z ?_
    apply AL.nil
    try simp only [thenS, S.put, List.nil_append, List.cons_append]
    refine AW.condF rfl ?_
    apply AW.skip
    try simp only [thenS, List.nil_append, List.cons_append]
    apply AW.region
    iterate 2 refine AL.z ?_
    apply AL.nil
    try simp only [thenS, S.put, List.nil_append, List.cons_append]
    refine ⟨_, ?_, ⟨i + 1, by omega, rfl⟩, ?_⟩
    ·rw [hsn2]
     exact Less.a1
    simp [S.nat, fnd]; omega
   have hfull : x.arcs.take i = x.arcs := List.take_of_length_le zT15
   rw [hfull] at hfm hfl2 ⊢
   obtain ⟨R, hR⟩ : ∃ R, x.arcs.filterMap (tArc kept) = R := ⟨_, rfl⟩
   rw [hR] at hfm hfl2 hPs ⊢
   have hrow := fs_row x.fin R
   have hRe : (FS.it ⟨x.fin, R⟩).isEmpty = decide (R.length = 0) := by cases R <;> rfl
   have hRl : (FS.it ⟨x.fin, R⟩).length = R.length := by simp [FS]
   apply AW.sr
   refine AL.z ?_
   apply AL.nil
   try simp only [thenS, S.put, List.nil_append, List.cons_append]
   apply AW.seq
   refine AW.condF rfl ?_
   refine AW.exit ?_
   try simp only [thenS, inBlockS, ↓reduceIte, Nat.reduceEqDiff, List.nil_append, List.cons_append]
   apply AW.region
   iterate 3 refine AL.z ?_
   refine AL.sm rfl (sm_slice (vs := [(0, _)]) (zs := [.d (.p (.int .i64 0)), .d (.p (.slice none 0 0))]) 113 Tryz.underlying22 inf35 rfl rfl zT14 zT14 zT14 rfl rfl rfl rfl (by first | rfl | (simp only [S.clean, S.put, S.newObj, List.all_cons, objs_clean_low, Nat.reduceLT]; simp [S.forget, V.has, V.hasL, junkIf, setL, V.cs, hasL_i, hasL_b, hasL_s, hasL_n, hasL_rep, hasL_flat, hasL_append, cells_hasL_low, has_ownV, hasL_frep, nb1, nb2, nb3, nb4, -List.map_set]; try omega)) rfl rfl) ?_
   refine AL.st rfl (st_appendF Tryz.underlying22 inf35 rfl zT14 rfl rfl rfl rfl rfl rfl zT5 (by first | rfl | (simp only [S.clean, S.put, S.newObj, List.all_cons, objs_clean_low, Nat.reduceLT]; simp [S.forget, V.has, V.hasL, junkIf, setL, V.cs, hasL_i, hasL_b, hasL_s, hasL_n, hasL_rep, hasL_flat, hasL_append, cells_hasL_low, has_ownV, hasL_frep, nb1, nb2, nb3, nb4, -List.map_set]; try omega)) rfl rfl rfl rfl rfl rfl rfl zT14 zT15 zT15 rfl) ?_
   simp only [objs_filter_low, Fam.objs_forget, cells_hasL_low, has_ownV, nb3, nb4, Nat.reduceLT, S.forget, S.put, S.newObj, junkIf, V.has, V.hasL, nh, hasL_flat, hasL_append, List.map_cons, List.map_nil, List.filter_cons, List.filter_nil, Nat.reduceBNe, Nat.reduceBEq, eq_self, bne_self_eq_false,  Bool.not_true, Bool.not_false, Bool.or_false, Bool.or_true, Bool.false_or, Bool.true_or, if_true, if_false, Bool.false_eq_true, ite_true, ite_false, ↓reduceIte, beq_self_eq_true, Nat.reduceEqDiff]
   refine AL.z ?_
   (refine AL.st rfl (st_store inf22 rfl rfl rfl rfl rfl rfl rfl zT7 rfl) ?_)
   apply AL.nil
   try simp only [nd, setL, V.cs, nz, Nat.reduceAdd, nm, ns]
   refine AW.less (s' := ⟨118, [(1, .ref 1 0), (2, .ref 2 0), (8, .d (intsD N)), (11, .ref 11 0), (72, .d (stsD sts)), (73, .i n), (74, .i k)], [(1, ⟨24, [.i st, .d (stsD sts)], false, 0⟩), (2, ⟨24, [.i 0, .nil], false, 0⟩), (11, ⟨24, [.i (pl kept st), .own 901 2 (P.length + 1) false], false, 0⟩), (901, ⟨35, FS.cells 1000 P ++ [.i x.fin, .own 102 4 R.length (decide (R.length = 0))], false, 2⟩), (102, ⟨47, R.flatMap arV2, decide (R.length = 0), 4⟩)] ++ FS.objs 1000 P, []⟩) Less.a1 ?_
   refine AW.famPush (F := FS) [_, _, _, _, _] 901 102 ⟨x.fin, R⟩ rfl rfl rfl (by rw [hrow]; rfl) (by rw [hRe, hRl]; rfl) zT14 rfl (by simp [V.hasL, V.has]) rfl rfl (by intro y hy _ r hr; simp only [List.mem_cons, List.not_mem_nil, or_false] at hy; rcases hy with rfl | rfl | rfl | rfl | rfl <;> first | (simp [V.hasL, V.has]; omega) | simp_all [V.hasL, V.has]) rfl rfl ?_
   apply AW.region
   iterate 2 refine AL.z ?_
   apply AL.nil
   try simp only [thenS, S.put, List.nil_append, List.cons_append]
   refine ⟨_, ?_, ⟨k + 1, _, by omega, hPs, rfl⟩, ?_⟩
   ·simp only [List.length_append, List.length_cons, List.length_nil, Nat.zero_add]
    exact Less.a1
   simp [S.nat, fnd]; omega
  rw [if_neg hKk] at hplk hsk
  rw [List.append_nil] at hsk
  have hneg : pl kept k < 0 := by rw [hplk]; omega
  apply AW.sr
  refine AL.z ?_
  apply AL.nil
  try simp only [thenS, S.put, List.nil_append, List.cons_append]
  apply AW.seq
  refine AW.condT rfl ?_
  apply AW.skip
  try simp only [thenS, List.nil_append, List.cons_append]
  apply AW.seq
  apply AW.block
  apply AW.sr
  iterate 3 refine AL.z ?_
  refine AL.sm rfl (sm_alloc (l := [.d (.p (.int .i64 0)), .d (.p (.slice none 0 0))]) 13 inf35 rfl (by first | rfl | (simp only [S.clean, S.put, S.newObj, List.all_cons, objs_clean_low, Nat.reduceLT]; simp [S.forget, V.has, V.hasL, junkIf, setL, V.cs, hasL_i, hasL_b, hasL_s, hasL_n, hasL_rep, hasL_flat, hasL_append, cells_hasL_low, has_ownV, hasL_frep, nb1, nb2, nb3, nb4, -List.map_set]; try omega)) rfl rfl) ?_
  refine AL.z ?_
  refine AL.y ?_
  apply AL.nil
  try simp only [nd, setL, V.cs, nz, Nat.reduceAdd, nm, ns]
  apply AW.seq
  apply AW.sr
  iterate 5 refine AL.z ?_
  apply AL.nil
  try simp only [thenS, S.put, List.nil_append, List.cons_append]
  refine AW.condT rfl ?_
  refine AW.exit ?_
  try simp only [thenS, inBlockS, ↓reduceIte, Nat.reduceEqDiff, List.nil_append, List.cons_append]
  apply AW.region
  iterate 2 refine AL.z ?_
  apply AL.nil
  try simp only [thenS, S.put, List.nil_append, List.cons_append]
  refine ⟨_, ?_, ⟨k + 1, P, by omega, by rw [hsk]; exact hP, rfl⟩, ?_⟩
  ·exact Less.a1
  simp [S.nat, fnd]; omega
 obtain rfl : k = n := by omega
 rw [← hkept] at hP
 have hTs : T.states = P := by rw [hT, hP]
 have hTt : T.start = pl kept st := by rw [hT]
 rw [hTs, hTt]
 apply AW.sr
 refine AL.z ?_
 apply AL.nil
 try simp only [thenS, S.put, List.nil_append, List.cons_append]
 apply AW.seq
 refine AW.condF rfl ?_
 refine AW.exit ?_
 try simp only [thenS, inBlockS, ↓reduceIte, Nat.reduceEqDiff, List.nil_append, List.cons_append]
 apply AW.sr
 refine AL.z ?_
 refine AL.y ?_
 refine AL.z ?_
 apply AL.nil
 try simp only [nd, setL, V.cs, nz, Nat.reduceAdd, nm, ns]
 apply AW.ret
 exact ⟨[_, _], (901, ⟨35, FS.cells 1000 P, decide (P.length = 0), 2⟩) :: FS.objs 1000 P, ⟨⟨2, 0, _, _, rfl, rfl, rfl, Tryz.underlying24, .inr ⟨rfl, _, _, _, _, inf24, rfl, rfl, rfl⟩⟩, rfl, trivial⟩, ⟨rfl, by repeat (first | exact trivial | refine ⟨rfl, ?_⟩ | exact LH.fam | refine LH.skip zT14 ?_)⟩, ⟨rfl, rfl⟩, by simp [tupOf, V.has, V.hasL], fam_closed rfl⟩
theorem am_farB (F : List Nat) (E : List (List (Nat × Nat))) (n : Nat) (hF : F.length = n) (hE : E.length = n) (hn60 : n ≤ 60) (hFx : ∀ x ∈ F, x ≤ 1000000001) (hEl : ∀ l ∈ E, l.length ≤ 24000 ∧ ∀ p w, (p, w) ∈ l → p < n ∧ w ≤ 1000000000) :
  FnO Tryz.prog 73 [.d (intsN F), .d (.sl 1 24 (E.map encE))] (fun v H => ((dstL (fInit F) (fEdge E) n).all okD = true ∧ v = .tup [.own 21 1 n false, .i 0] ∧ H = [(21, ⟨3, ((dstL (fInit F) (fEdge E) n).map tell).map V.n, false, 1⟩)]) ∨ ((dstL (fInit F) (fEdge E) n).all okD = false ∧ v = .tup [.nil, .i 4] ∧ H = [])) := by
 have hbig := big_eq
 have hin : ∀ q p w, fEdge E q p w → q < n := fun q p w ⟨l, h, _⟩ => by rw [← hE]; exact (List.getElem?_eq_some_iff.1 h).1
 obtain ⟨D, hD⟩ : ∃ D, dstL (fInit F) (fEdge E) n = D := ⟨_, rfl⟩
 have hDl : D.length = n := by rw [← hD]; simp [dstL]
 have hDb : ∀ x ∈ D, x ≤ big := by
  intro x hx
  rw [← hD] at hx
  simp only [dstL, List.mem_map] at hx
  obtain ⟨q, _, rfl⟩ := hx
  exact (dst_spec q).1
 rw [hD]
 refine FnO.intro (n := 117) ⟨Tryz.func73, rfl, rfl, rfl, rfl⟩ zT8 zT16 fun w0 out => ?_
 apply AW.sr
 iterate 2 refine AL.z ?_
 apply AL.nil
 try simp only [thenS, S.put, enum, List.nil_append, List.cons_append, List.append_nil, Nat.zero_add, Nat.reduceAdd]
 apply AW.sr
 iterate 2 refine AL.z ?_
 refine AL.sm rfl (sm_make_map 21 V.i (0) Tryz.underlying42 inf3 rfl rfl rfl rfl rfl zT15 zT14 rfl rfl) ?_
 refine AL.z ?_
 apply AL.nil
 try simp only [nd, setL, V.cs, nz, Nat.reduceAdd, nm, ns]
 apply AW.seq
 apply AW.sr
 iterate 3 refine AL.z ?_
 apply AL.nil
 try simp only [nd]
 apply AW.block
 refine AW.loop (fun s' => ∃ (k : Nat) (C : List Nat), k ≤ n ∧ C.length = n ∧ (∀ q x : Nat, q < k → F[q]? = some x → C[q]? = some (iC x)) ∧ s' = ⟨117, [(0, .d (intsN F)), (1, .d (.sl 1 24 (E.map encE))), (6, .own 21 1 n false), (22, .d (intsN F)), (23, .i n), (24, .i k)], [(21, ⟨3, C.map V.n, false, 1⟩)], []⟩) (fun s' => n - s'.nat 24) ⟨_, ?_, 0, List.replicate n 0, by omega, by simp, (fun q x h => absurd h zT15), rfl⟩ ?_
 ·have hz : (List.replicate n (0 : Int)).map V.i = (List.replicate n 0).map V.n := by simp
  rw [hz]
  exact Less.a0
 rintro s' ⟨k, C, hk, hCl, hC, rfl⟩
 by_cases hlt : k < n
 ·obtain ⟨x, hx⟩ := get_lt hF hlt
  have hkC : k < C.length := by omega
  have hkC2 : k < (C.set k big).length := by simpa using hkC
  have hnext : ∀ C' : List Nat, C' = C.set k (iC x) → ∀ q z : Nat, q < k + 1 → F[q]? = some z → C'[q]? = some (iC z) := by
   intro C' hC' q z hq hz
   subst hC'
   rw [List.getElem?_set]
   by_cases e : k = q
   ·subst e
    rw [hx] at hz
    simp only [Option.some.injEq] at hz
    subst hz
    simp [hkC]
   rw [if_neg e]; exact hC q z zT15 hz
  by_cases hi : x = 1000000001
  ·skip
   apply AW.sr
   refine AL.z ?_
   apply AL.nil
   try simp only [nd]
   apply AW.seq
   refine AW.condT rfl ?_
   apply AW.skip
   try simp only [thenS]
   apply AW.seq
   apply AW.block
   apply AW.sr
   iterate 5 refine AL.z ?_
   apply AL.nil
   try simp only [nd]
   apply AW.sr
   iterate 3 refine AL.z ?_
   refine AL.st rfl (st_store_map2 (v := big) inf3 rfl rfl rfl rfl rfl rfl rfl rfl zT9) ?_
   apply AL.nil
   try simp only [nd, setL, V.cs, nz, Nat.reduceAdd, nm, ns]
   apply AW.sr
   iterate 2 refine AL.z ?_
   apply AL.nil
   try simp only [nd]
   refine AW.condF rfl ?_
   apply AW.skip
   try simp only [thenS]
   apply AW.region
   iterate 2 refine AL.z ?_
   apply AL.nil
   try simp only [nd]
   refine ⟨_, ?_, ⟨k + 1, C.set k big, by omega, by simpa using hCl, hnext _ (by simp [iC, hi]), rfl⟩, ?_⟩
   ·exact Less.a0
   simp [S.nat, fnd]; omega
  skip
  apply AW.sr
  refine AL.z ?_
  apply AL.nil
  try simp only [nd]
  apply AW.seq
  refine AW.condT rfl ?_
  apply AW.skip
  try simp only [thenS]
  apply AW.seq
  apply AW.block
  apply AW.sr
  iterate 5 refine AL.z ?_
  apply AL.nil
  try simp only [nd]
  apply AW.sr
  iterate 3 refine AL.z ?_
  refine AL.st rfl (st_store_map2 (v := big) inf3 rfl rfl rfl rfl rfl rfl rfl rfl zT9) ?_
  apply AL.nil
  try simp only [nd, setL, V.cs, nz, Nat.reduceAdd, nm, ns]
  apply AW.sr
  iterate 2 refine AL.z ?_
  apply AL.nil
  try simp only [nd]
  refine AW.condT rfl ?_
  apply AW.region
  iterate 4 refine AL.z ?_
  refine AL.st rfl (st_store_map2 inf3 rfl rfl rfl rfl rfl rfl rfl rfl zT9) ?_
  apply AL.nil
  try simp only [nd, setL, V.cs, nz, Nat.reduceAdd, nm, ns]
  apply AW.region
  iterate 2 refine AL.z ?_
  apply AL.nil
  try simp only [nd]
  refine ⟨_, ?_, ⟨k + 1, (C.set k big).set k x, by omega, by simpa using hCl, hnext _ (by simp [iC, hi]), rfl⟩, ?_⟩
  ·exact Less.a0
  simp [S.nat, fnd]; omega
 have hCF : ∀ q x : Nat, F[q]? = some x → C[q]? = some (iC x) := fun q x h => hC q x (by have := (List.getElem?_eq_some_iff.1 h).1; omega) h
 have hFC : ∀ q y : Nat, C[q]? = some y → ∃ x, F[q]? = some x ∧ y = iC x := by
  intro q y h
  have hq : q < n := by have := (List.getElem?_eq_some_iff.1 h).1; omega
  obtain ⟨x, hx⟩ := get_lt hF hq
  refine ⟨x, hx, ?_⟩
  have := hCF q x hx
  rw [h] at this
  simpa using this
 have hsnd : Snd (fInit F) (fEdge E) n C := by
  refine ⟨hCl, fun q y h => ?_, fun q y h hb => ?_, fun q y d h hi => ?_⟩
  all_goals
   obtain ⟨x, hx, rfl⟩ := hFC q y h
   have hxl := hFx x (List.mem_of_getElem? hx)
  ·unfold iC; split <;> omega
  ·unfold iC at hb ⊢
   split
   ·rename_i e; rw [if_pos e] at hb; omega
   rename_i e; exact .init q x ⟨hx, e⟩
  obtain ⟨h1, h2⟩ := hi
  rw [hx] at h1
  simp only [Option.some.injEq] at h1
  subst h1
  unfold iC
  rw [if_neg h2]
  exact Nat.le_refl _
 clear hC hCF hFC
 apply AW.sr
 refine AL.z ?_
 apply AL.nil
 try simp only [nd]
 apply AW.seq
 refine AW.condF rfl ?_
 refine AW.exit ?_
 try simp only [thenS, inBlockS, ↓reduceIte, Nat.reduceEqDiff]
 apply AW.sr
 refine AL.sm rfl (sm_alloc (l := [.d (.p (.slice none 0 0))]) 9 inf42 rfl zT1 rfl rfl) ?_
 apply AL.nil
 try simp only [nd, setL, V.cs, nz, Nat.reduceAdd, nm, ns]
 apply AW.seq
 refine AW.adoptH 9 0 100 1 3 rfl rfl rfl zT4 ?_
 apply AW.region
 iterate 2 refine AL.z ?_
 refine AL.sm rfl (sm_make_map 41 V.b (false) Tryz.underlying51 inf4 rfl rfl rfl rfl rfl zT15 zT14 zT1 rfl) ?_
 refine AL.sm rfl (sm_alloc (l := [.d (.p (.slice none 0 0))]) 10 inf51 rfl zT1 rfl rfl) ?_
 (refine AL.st rfl (st_store inf51 rfl rfl rfl rfl rfl rfl rfl zT7 rfl) ?_)
 apply AL.nil
 try simp only [nd, setL, V.cs, nz, Nat.reduceAdd, nm, ns]
 apply AW.sr
 refine AL.rp rfl rfl (rp_func (vs := [_, _]) rfl rfl) ?_
 refine AL.z ?_
 apply AL.nil
 try simp only [nd]
 apply AW.seq
 apply AW.sr
 iterate 3 refine AL.z ?_
 apply AL.nil
 try simp only [nd]
 apply AW.block
 refine AW.loop (fun s' => ∃ (k : Nat) (W : List Bool) (T : List Nat), k ≤ n ∧ W.length = n ∧ (∀ x, W[x]? = some true ↔ x ∈ T) ∧ T.Nodup ∧ W.count true = T.length ∧ (∀ x ∈ T, x < k ∧ ∃ c : Nat, C[x]? = some c ∧ c < big) ∧ (∀ x c : Nat, x < k → C[x]? = some c → c < big → x ∈ T) ∧
  s' = ⟨117, [(1, .d (.sl 1 24 (E.map encE))), (6, .own 21 1 n false), (9, .ref 9 0), (10, .ref 10 0), (11, .fn 106 [.ref 10 0, .ref 9 0]), (44, .i n), (45, .i k)], [(21, ⟨3, C.map V.n, false, 1⟩), (9, ⟨42, [.own 100 1 T.length (decide (T.length = 0))], false, 0⟩), (100, ⟨3, T.map V.n, decide (T.length = 0), 1⟩), (10, ⟨51, [.own 41 1 n false], false, 0⟩), (41, ⟨4, W.map V.b, false, 1⟩)], []⟩) (fun s' => n - s'.nat 45) ⟨_, ?_, 0, List.replicate n false, [], by omega, by simp, by simp [List.getElem?_replicate], by simp, by simp [List.count_replicate], by simp, (fun x c h => absurd h zT15), rfl⟩ ?_
 ·exact Less.a0
 clear hlt hk k
 rintro s' ⟨k, W, T, hk, hW, hWT, hnd, hcnt, hT1, hT2, rfl⟩
 have hcl : W.count true ≤ W.length := List.count_le_length
 by_cases hlt : k < n
 ·obtain ⟨c, hc⟩ := get_lt hCl hlt
  have hcb := hsnd.le k c hc
  by_cases hb : c = big
  ·skip
   apply AW.sr
   refine AL.z ?_
   apply AL.nil
   try simp only [nd]
   apply AW.seq
   refine AW.condT rfl ?_
   apply AW.skip
   try simp only [thenS]
   apply AW.seq
   apply AW.block
   apply AW.sr
   iterate 2 refine AL.z ?_
   apply AL.nil
   try simp only [nd]
   apply AW.sr
   iterate 5 refine AL.z ?_
   apply AL.nil
   try simp only [nd]
   refine AW.condF rfl ?_
   apply AW.skip
   try simp only [thenS]
   apply AW.region
   iterate 2 refine AL.z ?_
   apply AL.nil
   try simp only [nd]
   refine ⟨_, ?_, ⟨k + 1, W, T, by omega, hW, hWT, hnd, hcnt, fun x hx => ⟨by have := (hT1 x hx).1; omega, (hT1 x hx).2⟩, fun x c' hx hc' hb' => ?_, rfl⟩, ?_⟩
   ·exact Less.a0
   ·by_cases e : x = k
    ·subst e; rw [hc] at hc'; simp only [Option.some.injEq] at hc'; omega
    exact hT2 x c' zT15 hc' hb'
   simp [S.nat, fnd]; omega
  have hkT : k ∉ T := fun h => by have := (hT1 k h).1; omega
  have hWk : W[k]? = some false := by
   obtain ⟨b, hbb⟩ := get_lt hW hlt
   cases b with
   | false => exact hbb
   | true => exact absurd ((hWT k).1 hbb) hkT
  have hkW : k < W.length := by omega
  have hcs := (count_set W hWk).1
  apply AW.sr
  refine AL.z ?_
  apply AL.nil
  try simp only [nd]
  apply AW.seq
  refine AW.condT rfl ?_
  apply AW.skip
  try simp only [thenS]
  apply AW.seq
  apply AW.block
  apply AW.sr
  iterate 2 refine AL.z ?_
  apply AL.nil
  try simp only [nd]
  apply AW.sr
  iterate 5 refine AL.z ?_
  apply AL.nil
  try simp only [nd]
  refine AW.condT rfl ?_
  apply AW.region
  iterate 2 refine AL.z ?_
  refine AL.inline [1, 6, 9, 10, 11, 44, 45] (ts := [_, _, _, _, _, _, _]) (ars := [_]) rfl rfl ⟨Tryz.func106, rfl, rfl, rfl, rfl⟩ rfl rfl rfl zT16 rfl fun kx => ?_
  try simp only [thenS, S.put, enum, List.nil_append, List.cons_append, List.append_nil, Nat.zero_add, Nat.reduceAdd]
  apply AW.sr
  iterate 5 refine AL.z ?_
  apply AL.nil
  try simp only [nd]
  refine AW.condT rfl ?_
  apply AW.sr
  iterate 3 refine AL.z ?_
  refine AL.st rfl (st_store_map2 inf4 rfl rfl rfl rfl rfl rfl rfl rfl zT9) ?_
  apply AL.nil
  try simp only [nd, setL, V.cs, nz, Nat.reduceAdd, nm, ns]
  apply AW.region
  iterate 2 refine AL.z ?_
  refine AL.sm rfl (sm_slice (vs := [(0, _)]) (zs := [.d (.p (.int .i64 0))]) 14 Tryz.underlying42 inf3 rfl rfl zT14 zT14 zT14 rfl rfl rfl rfl zT1 rfl rfl) ?_
  refine AL.st rfl (st_appendF Tryz.underlying42 inf3 rfl zT14 rfl rfl rfl rfl rfl rfl zT5 zT1 rfl rfl rfl rfl rfl rfl rfl zT14 zT15 zT15 rfl) ?_
  simp only [S.forget, S.put, S.newObj, junkIf, V.has, V.hasL, nh, hasL_flat, hasL_append, List.map_cons, List.map_nil, List.filter_cons, List.filter_nil, Nat.reduceBNe, Nat.reduceBEq, eq_self, bne_self_eq_false,  Bool.not_true, Bool.not_false, Bool.or_false, Bool.or_true, Bool.false_or, Bool.true_or, if_true, if_false, Bool.false_eq_true, ite_true, ite_false, ↓reduceIte, beq_self_eq_true, Nat.reduceEqDiff]
  (refine AL.st rfl (st_store inf42 rfl rfl rfl rfl rfl rfl rfl zT7 rfl) ?_)
  apply AL.nil
  try simp only [nd, setL, V.cs, nz, Nat.reduceAdd, nm, ns]
  refine ⟨[], trivial, ?_⟩
  try simp only [S.put, tupOf, List.zip_cons_cons, List.zip_nil_left, List.drop_succ_cons, List.drop_zero, List.length_cons, List.length_nil, Nat.zero_add, Nat.reduceAdd]
  apply AL.nil
  try simp only [nd]
  apply AW.region
  iterate 2 refine AL.z ?_
  apply AL.nil
  try simp only [nd]
  refine ⟨_, ?_, ⟨k + 1, W.set k true, T ++ [k], by omega, by simpa using hW, fun x => ?_, ?_, by simp; omega, fun x hx => ?_, fun x c' hx hc' hb' => ?_, rfl⟩, ?_⟩
  ·simp only [List.map_append, List.map_cons, List.map_nil, List.length_append, List.length_cons, List.length_nil, Nat.zero_add]
   exact Less.a0
  ·rw [List.getElem?_set, List.mem_append, ← hWT x]
   by_cases e : k = x
   ·subst e; simp [hkW]
   simp [e, Ne.symm e]
  ·rw [List.nodup_append]
   exact ⟨hnd, by simp, fun a ha b hb => by simp at hb; subst hb; rintro rfl; exact hkT ha⟩
  ·rcases List.mem_append.1 hx with hx | hx
   ·exact ⟨by have := (hT1 x hx).1; omega, (hT1 x hx).2⟩
   obtain rfl : x = k := by simpa using hx
   exact ⟨by omega, c, hc, by omega⟩
  ·by_cases e : x = k
   ·subst e; simp
   exact List.mem_append.2 (.inl (hT2 x c' zT15 hc' hb'))
  simp [S.nat, fnd]; omega
 have hque : Que (fInit F) (fEdge E) n (fun _ => False) C T := ⟨hsnd, fun q hq => (hT1 q hq).2, hnd, fun q p w x y h1 _ h3 h4 h5 _ => absurd (hT2 q x (by have := hin q p w h3; omega) h4 h5) h1⟩
 clear hT1 hT2 hnd
 apply AW.sr
 refine AL.z ?_
 apply AL.nil
 try simp only [nd]
 apply AW.seq
 refine AW.condF rfl ?_
 refine AW.exit ?_
 try simp only [thenS, inBlockS, ↓reduceIte, Nat.reduceEqDiff]
 refine AW.seqc (fun s' => s' = ⟨117, [(6, .own 21 1 n false)], [(21, ⟨3, D.map V.n, false, 1⟩)], []⟩) ?_ ?_
 ·skip
  by_cases hT0 : T = []
  ·have hCD := hque.done hT0 hin
   rw [hD] at hCD
   subst hT0 hCD
   apply AW.block
   refine AW.loop (fun s' => s' = ⟨117, [(6, .own 21 1 n false), (9, .ref 9 0)], [(21, ⟨3, C.map V.n, false, 1⟩), (9, ⟨42, [.own 100 1 0 true], false, 0⟩)], []⟩) (fun s' => 0) ⟨_, ?_, rfl⟩ ?_
   ·exact Less.a0
   rintro s' rfl
   apply AW.seq
   apply AW.sr
   iterate 3 refine AL.z ?_
   apply AL.nil
   try simp only [nd]
   refine AW.condF rfl ?_
   refine AW.exit ?_
   try simp only [thenS, inBlockS, ↓reduceIte, Nat.reduceEqDiff]
   refine ⟨_, ?_, rfl⟩
   exact Less.a0
  have hT0' : decide (T.length = 0) = false := by cases T with | nil => exact absurd rfl hT0 | cons => rfl
  rw [hT0']
  refine AW.less (Less.cell 9 0 (.que 100 1 0 T.length) rfl rfl (.que 100 1 T.length)) ?_
  apply AW.block
  refine AW.loopN (fun μ s' => ∃ (C : List Nat) (W : List Bool) (pre T : List Nat), 2 * C.sum + T.length ≤ μ ∧ W.length = n ∧ (∀ x, W[x]? = some true ↔ x ∈ T) ∧ W.count true = T.length ∧ Que (fInit F) (fEdge E) n (fun _ => False) C T ∧
   s' = ⟨117, [(1, .d (.sl 1 24 (E.map encE))), (6, .own 21 1 n false), (9, .ref 9 0), (10, .ref 10 0), (11, .fn 106 [.ref 10 0, .ref 9 0])], [(21, ⟨3, C.map V.n, false, 1⟩), (9, ⟨42, [.que 100 1 pre.length T.length], false, 0⟩), (100, ⟨3, (pre ++ T).map V.n, false, 1⟩), (10, ⟨51, [.own 41 1 n false], false, 0⟩), (41, ⟨4, W.map V.b, false, 1⟩)], []⟩) ⟨_, _, ?_, C, W, [], T, Nat.le_refl _, hW, hWT, hcnt, hque, rfl⟩ ?_
  ·exact Less.a0
  rintro μ s' ⟨C, W, pre, T, hμ, hW, hWT, hcnt, hque, rfl⟩
  by_cases hTe : T = []
  ·have hCD := hque.done hTe hin
   rw [hD] at hCD
   obtain ⟨t, ht⟩ : ∃ t, T.length = t := ⟨_, rfl⟩
   have hz : ¬ 0 < t := by rw [← ht, hTe]; simp
   rw [ht]
   subst hCD
   apply AW.seq
   apply AW.sr
   refine AL.z ?_
   refine AL.rp rfl rfl (rp_len_que Tryz.underlying42 rfl rfl) ?_
   refine AL.z ?_
   apply AL.nil
   try simp only [nd]
   refine AW.condF rfl ?_
   refine AW.exit ?_
   try simp only [thenS, inBlockS, ↓reduceIte, Nat.reduceEqDiff]
   refine ⟨_, ?_, rfl⟩
   exact Less.a0
  obtain ⟨q, T', rfl⟩ : ∃ q T', T = q :: T' := by cases T with | nil => exact absurd rfl hTe | cons q T' => exact ⟨q, T', rfl⟩
  obtain ⟨t, ht⟩ : ∃ t, T'.length = t := ⟨_, rfl⟩
  have hlen : (q :: T').length = t + 1 := by simp [ht]
  rw [hlen] at hμ hcnt ⊢
  obtain ⟨xq, hxq, hxb⟩ := hque.fin q zT16
  have hqn : q < n := by have := (List.getElem?_eq_some_iff.1 hxq).1; rw [hque.snd.len] at this; exact this
  obtain ⟨hqT, hque⟩ := hque.take
  obtain ⟨l, hl⟩ := get_lt hE hqn
  obtain ⟨hll, hlp⟩ := hEl l (List.mem_of_getElem? hl)
  obtain ⟨la, hla⟩ : ∃ n, l.length = n := ⟨_, rfl⟩
  rw [hla] at hll
  have hq0 : (pre ++ q :: T')[pre.length + 0]? = some q := by rw [Nat.add_zero, List.getElem?_append_right (Nat.le_refl _)]; simp
  have hWq : W[q]? = some true := (hWT q).2 zT16
  have hqW : q < W.length := by omega
  have hcc := count_clear W hWq
  have hpl : (pre ++ [q]).length = pre.length + 1 := by simp
  apply AW.seq
  apply AW.sr
  refine AL.z ?_
  refine AL.rp rfl rfl (rp_len_que Tryz.underlying42 rfl rfl) ?_
  refine AL.z ?_
  apply AL.nil
  try simp only [nd]
  refine AW.condT rfl ?_
  apply AW.skip
  try simp only [thenS]
  apply AW.block
  apply AW.sr
  refine AL.z ?_
  refine AL.rp rfl rfl (rp_index_que (j := 0) Tryz.underlying42 inf3 rfl rfl rfl zT15 zT15) ?_
  iterate 2 refine AL.z ?_
  apply AL.nil
  try simp only [nd]
  apply AW.sr
  refine AL.z ?_
  refine AL.rd rfl rfl (rd_slice_que (j := 1) Tryz.underlying42 inf3 rfl rfl rfl zT15 zT15) ?_
  (refine AL.st rfl (st_store inf42 rfl rfl rfl rfl rfl rfl rfl zT7 rfl) ?_)
  apply AL.nil
  try simp only [nd, setL, V.cs, nz, Nat.reduceAdd, nm, ns]
  apply AW.sr
  iterate 3 refine AL.z ?_
  refine AL.st rfl (st_store_map2 inf4 rfl rfl rfl rfl rfl rfl rfl rfl zT9) ?_
  apply AL.nil
  try simp only [nd, setL, V.cs, nz, Nat.reduceAdd, nm, ns]
  apply AW.sr
  iterate 6 refine AL.z ?_
  apply AL.nil
  try simp only [nd]
  apply AW.block
  refine AW.loop (fun s' => ∃ (i : Nat) (C : List Nat) (W : List Bool) (pre T : List Nat), i ≤ la ∧ 2 * C.sum + T.length < μ ∧ W.length = n ∧ (∀ x, W[x]? = some true ↔ x ∈ T) ∧ W.count true = T.length ∧ Que (fInit F) (fEdge E) n (fun x => x = q) C T ∧ C[q]? = some xq ∧ (∀ (j : Nat) (e : Nat × Nat) (y : Nat), j < i → l[j]? = some e → C[e.1]? = some y → y ≤ xq + e.2) ∧
   s' = ⟨117, [(1, .d (.sl 1 24 (E.map encE))), (6, .own 21 1 n false), (9, .ref 9 0), (10, .ref 10 0), (11, .fn 106 [.ref 10 0, .ref 9 0]), (13, .i q), (71, .d (.sl 2 16 (l.map fun e => [.p (.int .i64 (e.1 : Int)), .p (.int .i64 (e.2 : Int))]))), (72, .i la), (73, .i i)], [(21, ⟨3, C.map V.n, false, 1⟩), (9, ⟨42, [.que 100 1 pre.length T.length], false, 0⟩), (100, ⟨3, (pre ++ T).map V.n, false, 1⟩), (10, ⟨51, [.own 41 1 n false], false, 0⟩), (41, ⟨4, W.map V.b, false, 1⟩)], []⟩) (fun s' => la - s'.nat 73) ⟨_, ?_, 0, C, W.set q false, pre ++ [q], T', by omega, by omega, by simpa using hW, fun x => ?_, by omega, hque, hxq, (fun j e y h => absurd h zT15), rfl⟩ ?_
  ·rw [hpl, ht]
   simp only [List.append_assoc, List.cons_append, List.nil_append]
   exact Less.a0
  ·rw [List.getElem?_set]
   by_cases e : q = x
   ·subst e; simp [hqW, hqT]
   rw [if_neg e, hWT x]; simp [Ne.symm e]
  clear hμ hW hWT hcnt hque hxq hq0 hWq hqW hcc hpl ht hlen hqT hTe
  rintro s' ⟨i, C, W, pre, T, hi, hμ, hW, hWT, hcnt, hque, hxq, hdone, rfl⟩
  have hcl : W.count true ≤ W.length := List.count_le_length
  by_cases hil : i < la
  ·obtain ⟨e0, hy⟩ := get_lt hla hil
   have hmem : (e0.1, e0.2) ∈ l := List.mem_of_getElem? hy
   obtain ⟨hpn, hw9⟩ := hlp e0.1 e0.2 hmem
   have hedge : fEdge E q e0.1 e0.2 := ⟨l, hl, hmem⟩
   obtain ⟨y, hyC⟩ := get_lt hque.snd.len hpn
   have hyb := hque.snd.le _ _ hyC
   have hpC : e0.1 < C.length := by rw [hque.snd.len]; exact hpn
   by_cases hc : xq + e0.2 < y
   ·have hne : e0.1 ≠ q := by
     intro e
     rw [e, hxq] at hyC
     simp only [Option.some.injEq] at hyC
     omega
    have hlt' : ∀ z : Nat, C[e0.1]? = some z → xq + e0.2 < z := fun z hz => by rw [hyC] at hz; simp only [Option.some.injEq] at hz; omega
    have hsum := sum_set C e0.1 (xq + e0.2) y hyC hc
    have hxq' : (C.set e0.1 (xq + e0.2))[q]? = some xq := by rw [List.getElem?_set_ne hne]; exact hxq
    have hdone' : ∀ (j : Nat) (e : Nat × Nat) (z : Nat), j < i + 1 → l[j]? = some e → (C.set e0.1 (xq + e0.2))[e.1]? = some z → z ≤ xq + e.2 := by
     intro j e z hj he hz
     rw [List.getElem?_set] at hz
     by_cases ej : j = i
     ·subst ej
      rw [hy] at he
      simp only [Option.some.injEq] at he
      subst he
      simp [hpC] at hz
      omega
     split at hz
     ·rename_i e1
      simp only [Option.some.injEq] at hz
      have := hdone j e y zT15 he (by rw [← e1]; exact hyC)
      omega
     exact hdone j e z zT15 he hz
    obtain ⟨b, hb⟩ := get_lt hW hpn
    cases b with
    | true =>
     have hpT := (hWT e0.1).1 hb
     have hnext := hque.less hedge hxq hxb hpn hlt' (T' := T) (by rw [if_pos hpT])
     apply AW.sr
     refine AL.z ?_
     apply AL.nil
     try simp only [nd]
     apply AW.seq
     refine AW.condT rfl ?_
     apply AW.skip
     try simp only [thenS]
     apply AW.seq
     apply AW.block
     apply AW.sr
     iterate 2 refine AL.z ?_
     refine AL.sm rfl (sm_alloc (l := [.d (.p (.int .i64 0)), .d (.p (.int .i64 0))]) 15 inf104 rfl zT1 rfl rfl) ?_
     refine AL.y ?_
     apply AL.nil
     try simp only [nd, setL, V.cs, nz, Nat.reduceAdd, nm, ns]
     apply AW.seq
     refine AW.draw [(0, true), (1, true), (2, true), (3, true), (4, true), (5, true), (6, true), (7, true)] (fun i => !([] : List Nat).contains i) 8 zT12 zT12 rfl zT12 ?_
     iterate 8 refine AD1.z ?_
     refine AD1.nil ?_
     try simp only [nd]
     apply AW.sr
     iterate 7 refine AL.z ?_
     apply AL.nil
     try simp only [nd]
     refine AW.condT rfl ?_
     apply AW.sr
     iterate 5 refine AL.z ?_
     refine AL.st rfl (st_store_map2 (v := xq + e0.2) inf3 rfl rfl rfl rfl rfl rfl rfl rfl zT9) ?_
     apply AL.nil
     try simp only [nd, setL, V.cs, nz, Nat.reduceAdd, nm, ns]
     apply AW.region
     iterate 3 refine AL.z ?_
     refine AL.inline [1, 6, 9, 10, 11, 13, 71, 72, 73] (ts := [_, _, _, _, _, _, _, _, _]) (ars := [_]) rfl rfl ⟨Tryz.func106, rfl, rfl, rfl, rfl⟩ rfl rfl rfl zT16 rfl fun kx => ?_
     try simp only [thenS, S.put, enum, List.nil_append, List.cons_append, List.append_nil, Nat.zero_add, Nat.reduceAdd]
     apply AW.sr
     iterate 5 refine AL.z ?_
     apply AL.nil
     try simp only [nd]
     refine AW.condF rfl ?_
     apply AW.skip
     try simp only [thenS]
     refine ⟨[], trivial, ?_⟩
     try simp only [S.put, tupOf, List.zip_cons_cons, List.zip_nil_left, List.drop_succ_cons, List.drop_zero, List.length_cons, List.length_nil, Nat.zero_add, Nat.reduceAdd]
     apply AL.nil
     try simp only [nd]
     apply AW.region
     iterate 2 refine AL.z ?_
     apply AL.nil
     try simp only [nd]
     refine ⟨_, ?_, ⟨i + 1, C.set e0.1 (xq + e0.2), W, pre, T, by omega, by omega, hW, hWT, hcnt, hnext, hxq', hdone', rfl⟩, ?_⟩
     ·exact Less.a0
     simp [S.nat, fnd]; omega
    | false =>
     have hpT : e0.1 ∉ T := fun h => by have := (hWT e0.1).2 h; rw [hb] at this; cases this
     have hnext := hque.less hedge hxq hxb hpn hlt' (T' := T ++ [e0.1]) (by rw [if_neg hpT])
     have hpW : e0.1 < W.length := by omega
     have hcs := (count_set W hb).1
     apply AW.sr
     refine AL.z ?_
     apply AL.nil
     try simp only [nd]
     apply AW.seq
     refine AW.condT rfl ?_
     apply AW.skip
     try simp only [thenS]
     apply AW.seq
     apply AW.block
     apply AW.sr
     iterate 2 refine AL.z ?_
     refine AL.sm rfl (sm_alloc (l := [.d (.p (.int .i64 0)), .d (.p (.int .i64 0))]) 15 inf104 rfl zT1 rfl rfl) ?_
     refine AL.y ?_
     apply AL.nil
     try simp only [nd, setL, V.cs, nz, Nat.reduceAdd, nm, ns]
     apply AW.seq
     refine AW.draw [(0, true), (1, true), (2, true), (3, true), (4, true), (5, true), (6, true), (7, true)] (fun i => !([] : List Nat).contains i) 8 zT12 zT12 rfl zT12 ?_
     iterate 8 refine AD1.z ?_
     refine AD1.nil ?_
     try simp only [nd]
     apply AW.sr
     iterate 7 refine AL.z ?_
     apply AL.nil
     try simp only [nd]
     refine AW.condT rfl ?_
     apply AW.sr
     iterate 5 refine AL.z ?_
     refine AL.st rfl (st_store_map2 (v := xq + e0.2) inf3 rfl rfl rfl rfl rfl rfl rfl rfl zT9) ?_
     apply AL.nil
     try simp only [nd, setL, V.cs, nz, Nat.reduceAdd, nm, ns]
     apply AW.region
     iterate 3 refine AL.z ?_
     refine AL.inline [1, 6, 9, 10, 11, 13, 71, 72, 73] (ts := [_, _, _, _, _, _, _, _, _]) (ars := [_]) rfl rfl ⟨Tryz.func106, rfl, rfl, rfl, rfl⟩ rfl rfl rfl zT16 rfl fun kx => ?_
     try simp only [thenS, S.put, enum, List.nil_append, List.cons_append, List.append_nil, Nat.zero_add, Nat.reduceAdd]
     apply AW.sr
     iterate 5 refine AL.z ?_
     apply AL.nil
     try simp only [nd]
     refine AW.condT rfl ?_
     apply AW.sr
     iterate 3 refine AL.z ?_
     refine AL.st rfl (st_store_map2 inf4 rfl rfl rfl rfl rfl rfl rfl rfl zT9) ?_
     apply AL.nil
     try simp only [nd, setL, V.cs, nz, Nat.reduceAdd, nm, ns]
     apply AW.region
     iterate 2 refine AL.z ?_
     refine AL.sm rfl (sm_slice (vs := [(0, _)]) (zs := [.d (.p (.int .i64 0))]) 14 Tryz.underlying42 inf3 rfl rfl zT14 zT14 zT14 rfl rfl rfl rfl zT1 rfl rfl) ?_
     refine AL.stq rfl (st_append_que Tryz.underlying42 inf3 rfl rfl rfl rfl rfl rfl rfl rfl (fun l => hasL_n _ l) rfl rfl rfl rfl rfl zT15 zT14 rfl) ?_
     intro pre2
     simp only [S.forget, S.put, S.newObj, junkIf, V.has, V.hasL, nh, hasL_flat, hasL_append, List.map_cons, List.map_nil, List.filter_cons, List.filter_nil, Nat.reduceBNe, Nat.reduceBEq, eq_self, bne_self_eq_false,  Bool.not_true, Bool.not_false, Bool.or_false, Bool.or_true, Bool.false_or, Bool.true_or, if_true, if_false, Bool.false_eq_true, ite_true, ite_false, ↓reduceIte, beq_self_eq_true, Nat.reduceEqDiff]
     (refine AL.st rfl (st_store inf42 rfl rfl rfl rfl rfl rfl rfl zT7 rfl) ?_)
     apply AL.nil
     try simp only [nd, setL, V.cs, nz, Nat.reduceAdd, nm, ns]
     refine ⟨[], trivial, ?_⟩
     try simp only [S.put, tupOf, List.zip_cons_cons, List.zip_nil_left, List.drop_succ_cons, List.drop_zero, List.length_cons, List.length_nil, Nat.zero_add, Nat.reduceAdd]
     apply AL.nil
     try simp only [nd]
     apply AW.region
     iterate 2 refine AL.z ?_
     apply AL.nil
     try simp only [nd]
     refine ⟨_, ?_, ⟨i + 1, C.set e0.1 (xq + e0.2), W.set e0.1 true, pre2, T ++ [e0.1], by omega, by simp; omega, by simpa using hW, fun x => ?_, by simp; omega, hnext, hxq', hdone', rfl⟩, ?_⟩
     ·simp only [List.length_append, List.length_cons, List.length_nil, Nat.zero_add]
      exact Less.a0
     ·rw [List.getElem?_set, List.mem_append, ← hWT x]
      by_cases e : e0.1 = x
      ·subst e; simp [hpW]
      simp [e, Ne.symm e]
     simp [S.nat, fnd]; omega
   skip
   apply AW.sr
   refine AL.z ?_
   apply AL.nil
   try simp only [nd]
   apply AW.seq
   refine AW.condT rfl ?_
   apply AW.skip
   try simp only [thenS]
   apply AW.seq
   apply AW.block
   apply AW.sr
   iterate 2 refine AL.z ?_
   refine AL.sm rfl (sm_alloc (l := [.d (.p (.int .i64 0)), .d (.p (.int .i64 0))]) 15 inf104 rfl zT1 rfl rfl) ?_
   refine AL.y ?_
   apply AL.nil
   try simp only [nd, setL, V.cs, nz, Nat.reduceAdd, nm, ns]
   apply AW.seq
   refine AW.draw [(0, true), (1, true), (2, true), (3, true), (4, true), (5, true), (6, true), (7, true)] (fun i => !([] : List Nat).contains i) 8 zT12 zT12 rfl zT12 ?_
   iterate 8 refine AD1.z ?_
   refine AD1.nil ?_
   try simp only [nd]
   apply AW.sr
   iterate 7 refine AL.z ?_
   apply AL.nil
   try simp only [nd]
   refine AW.condF rfl ?_
   apply AW.skip
   try simp only [thenS]
   apply AW.region
   iterate 2 refine AL.z ?_
   apply AL.nil
   try simp only [nd]
   refine ⟨_, ?_, ⟨i + 1, C, W, pre, T, by omega, hμ, hW, hWT, hcnt, hque, hxq, fun j e z hj he hz => ?_, rfl⟩, ?_⟩
   ·exact Less.a0
   ·by_cases ej : j = i
    ·subst ej
     rw [hy] at he
     simp only [Option.some.injEq] at he
     subst he
     rw [hyC] at hz
     simp only [Option.some.injEq] at hz
     omega
    exact hdone j e z zT15 he hz
   simp [S.nat, fnd]; omega
  skip
  apply AW.sr
  refine AL.z ?_
  apply AL.nil
  try simp only [nd]
  apply AW.seq
  refine AW.condF rfl ?_
  refine AW.exit ?_
  try simp only [thenS, inBlockS, ↓reduceIte, Nat.reduceEqDiff]
  refine ⟨_, _, ?_, ⟨C, W, pre, T, Nat.le_refl _, hW, hWT, hcnt, hque.settle fun p w x z he hx hz => ?_, rfl⟩, hμ⟩
  ·exact Less.a0
  rw [hxq] at hx
  simp only [Option.some.injEq] at hx
  subst hx
  obtain ⟨l', h1, h2⟩ := he
  rw [hl] at h1
  simp only [Option.some.injEq] at h1
  subst h1
  obtain ⟨j, hj⟩ := List.getElem?_of_mem h2
  exact hdone j (p, w) z (by have := (List.getElem?_eq_some_iff.1 hj).1; omega) hj hz
 rintro s' rfl
 clear hsnd hCl
 apply AW.seq
 apply AW.sr
 iterate 3 refine AL.z ?_
 apply AL.nil
 try simp only [nd]
 apply AW.block
 refine AW.loop (fun s' => ∃ k : Nat, k ≤ n ∧ (∀ j x : Nat, j < k → D[j]? = some x → okD x = true) ∧ s' = ⟨117, [(6, .own 21 1 n false), (101, .own 21 1 n false), (102, .i n), (103, .i k)], [(21, ⟨3, (part tell k D).map V.n, false, 1⟩)], []⟩) (fun s' => n - s'.nat 103) ⟨_, ?_, 0, by omega, (fun j x h => absurd h zT15), rfl⟩ ?_
 ·rw [part_zero]; exact Less.a0
 rintro s' ⟨k, hk, hok, rfl⟩
 by_cases hlt : k < n
 ·obtain ⟨x, hx⟩ := get_lt hDl hlt
  have hpx := part_get (f := tell) hx
  have hpl : k < (part tell k D).length := by rw [part_len]; omega
  have hxb := hDb x (List.mem_of_getElem? hx)
  have hokn : okD x = true → ∀ j z : Nat, j < k + 1 → D[j]? = some z → okD z = true := by
   intro h j z hj hz
   by_cases e : j = k
   ·subst e; rw [hx] at hz; simp only [Option.some.injEq] at hz; subst hz; exact h
   exact hok j z zT15 hz
  by_cases hb : x = big
  ·have hst := part_set (f := tell) hx
   rw [show tell x = 1000000001 by simp [tell, hb]] at hst
   apply AW.sr
   refine AL.z ?_
   apply AL.nil
   try simp only [nd]
   apply AW.seq
   refine AW.condT rfl ?_
   apply AW.skip
   try simp only [thenS]
   apply AW.seq
   apply AW.block
   apply AW.sr
   iterate 5 refine AL.z ?_
   apply AL.nil
   try simp only [nd]
   apply AW.sr
   iterate 2 refine AL.z ?_
   apply AL.nil
   try simp only [nd]
   refine AW.condT rfl ?_
   apply AW.region
   iterate 3 refine AL.z ?_
   refine AL.st rfl (st_store_map2 (v := 1000000001) inf3 rfl rfl rfl rfl rfl rfl rfl rfl zT9) ?_
   apply AL.nil
   try simp only [nd, setL, V.cs, nz, Nat.reduceAdd, nm, ns]
   apply AW.region
   iterate 2 refine AL.z ?_
   apply AL.nil
   try simp only [nd]
   refine ⟨_, ?_, ⟨k + 1, by omega, hokn (by simp [okD, hb]), rfl⟩, ?_⟩
   ·rw [← hst]; exact Less.a0
   simp [S.nat, fnd]; omega
  by_cases hov : 1000000000 < x
  ·have hall : D.all okD = false := all_not hx (by simp [okD, hb]; omega)
   apply AW.sr
   refine AL.z ?_
   apply AL.nil
   try simp only [nd]
   apply AW.seq
   refine AW.condT rfl ?_
   apply AW.skip
   try simp only [thenS]
   apply AW.seq
   apply AW.block
   apply AW.sr
   iterate 5 refine AL.z ?_
   apply AL.nil
   try simp only [nd]
   apply AW.sr
   iterate 2 refine AL.z ?_
   apply AL.nil
   try simp only [nd]
   refine AW.condF rfl ?_
   apply AW.sr
   iterate 2 refine AL.z ?_
   apply AL.nil
   try simp only [nd]
   refine AW.condT rfl ?_
   apply AW.sr
   iterate 2 refine AL.z ?_
   apply AL.nil
   try simp only [nd]
   apply AW.ret
   exact ⟨[_, _], [], ⟨rfl, rfl, trivial⟩, trivial, .inr ⟨hall, rfl, rfl⟩, by simp [tupOf, V.has, V.hasL], fun r row k h1 => by cases h1⟩
  have hps := part_skip (f := tell) hx (by simp [tell, hb])
  apply AW.sr
  refine AL.z ?_
  apply AL.nil
  try simp only [nd]
  apply AW.seq
  refine AW.condT rfl ?_
  apply AW.skip
  try simp only [thenS]
  apply AW.seq
  apply AW.block
  apply AW.sr
  iterate 5 refine AL.z ?_
  apply AL.nil
  try simp only [nd]
  apply AW.sr
  iterate 2 refine AL.z ?_
  apply AL.nil
  try simp only [nd]
  refine AW.condF rfl ?_
  apply AW.sr
  iterate 2 refine AL.z ?_
  apply AL.nil
  try simp only [nd]
  refine AW.condF rfl ?_
  apply AW.skip
  try simp only [thenS]
  apply AW.region
  iterate 2 refine AL.z ?_
  apply AL.nil
  try simp only [nd]
  refine ⟨_, ?_, ⟨k + 1, by omega, hokn (by simp [okD]; omega), rfl⟩, ?_⟩
  ·rw [← hps]; exact Less.a0
  simp [S.nat, fnd]; omega
 have hall : D.all okD = true := by
  rw [List.all_eq_true]
  intro x hx
  obtain ⟨j, hj⟩ := List.getElem?_of_mem hx
  exact hok j x (by have := (List.getElem?_eq_some_iff.1 hj).1; omega) hj
 rw [part_full _ zT15]
 apply AW.sr
 refine AL.z ?_
 apply AL.nil
 try simp only [nd]
 apply AW.seq
 refine AW.condF rfl ?_
 refine AW.exit ?_
 try simp only [thenS, inBlockS, ↓reduceIte, Nat.reduceEqDiff]
 apply AW.sr
 iterate 3 refine AL.z ?_
 apply AL.nil
 try simp only [nd]
 apply AW.ret
 exact ⟨[_, _], [(21, ⟨3, (D.map tell).map V.n, false, 1⟩)], ⟨rfl, rfl, trivial⟩, ⟨rfl, trivial⟩, .inl ⟨hall, rfl, rfl⟩, by simp [tupOf, V.has, V.hasL], fun r row k h1 h2 => by
  simp only [fnd, beq_iff_eq] at h1
  split at h1
  ·cases h1; rw [hasL_n] at h2; cases h2
  cases h1⟩
theorem am_farO (F : List Nat) (E : List (List (Nat × Nat))) (n : Nat) (hF : F.length = n) (hE : E.length = n) (hn60 : n ≤ 60) (hFx : ∀ x ∈ F, x ≤ 1000000001) (hEl : ∀ l ∈ E, l.length ≤ 24000 ∧ ∀ p w, (p, w) ∈ l → p < n ∧ w ≤ 1000000000) (hall0 : (dstL (fInit F) (fEdge E) n).all okD = true) :
  FnO Tryz.prog 73 [.d (intsN F), .d (.sl 1 24 (E.map encE))] (fun v H => v = .tup [.own 21 1 n false, .i 0] ∧ H = [(21, ⟨3, ((dstL (fInit F) (fEdge E) n).map tell).map V.n, false, 1⟩)]) := fun w out g xs h1 h2 =>
 (am_farB F E n hF hE hn60 hFx hEl w out g xs h1 h2).mono fun e w' ⟨v, x, g', H, k1, k2, k3⟩ => ⟨v, x, g', H, k1, k2.elim (fun k => k.2) (fun k => by rw [k.1] at hall0; exact absurd hall0 zT14), k3⟩
/-- What it has made is told as plain data. -/
theorem am_far (F : List Nat) (E : List (List (Nat × Nat))) (n : Nat) (hF : F.length = n) (hE : E.length = n) (hn60 : n ≤ 60) (hFx : ∀ x ∈ F, x ≤ 1000000001) (hEl : ∀ l ∈ E, l.length ≤ 24000 ∧ ∀ p w, (p, w) ∈ l → p < n ∧ w ≤ 1000000000) :
  Fn Tryz.prog 73 [.d (intsN F), .d (.sl 1 24 (E.map encE))] (resD (dstL (fInit F) (fEdge E) n)) := by
 intro w out g xs ho hx
 refine (am_farB F E n hF hE hn60 hFx hEl w out g xs ho hx).mono ?_
 have hDl : (dstL (fInit F) (fEdge E) n).length = n := by simp [dstL]
 rintro e w' ⟨v, x, g', H, rfl, hv, hk, hO, h3, h4⟩
 rcases hv with ⟨hall, rfl, rfl⟩ | ⟨hall, rfl, rfl⟩
 ·refine ⟨_, x, rfl, .inl ⟨hall, rfl⟩, by simp [V.pure, V.has, V.hasL], ?_, h4⟩
  obtain ⟨arr, o1, _, o3⟩ := hO.obj 21 _ rfl rfl
  have hnew := hO.new 21 _ rfl rfl
  cases h3 with
  | tup _ cs hl hh =>
   refine .tup _ cs hl fun j u z hu hz => ?_
   match j, hu with
   | 0, hu =>
    simp only [List.getElem?_cons_zero, Option.some.injEq] at hu
    subst hu
    have h5 := hh 0 _ z rfl hz
    refine .d _ _ ?_
    have hat : ∀ (i : Nat) (y : Nat), ((dstL (fInit F) (fEdge E) n).map tell)[i]? = some y → arr[i]? = some (.int .i64 (y : Int)) := fun i y hy => by
     obtain ⟨q, h6, h7⟩ := o3 i (V.n y) (by rw [List.getElem?_map, hy]; rfl)
     rw [VRep.p_eq h7] at h6
     exact h6
    have hrow : ∀ (i j : Nat) (l : List D) (u : D), (((dstL (fInit F) (fEdge E) n).map tell).map encN)[i]? = some l → l[j]? = some u → ∃ y : Nat, j = 0 ∧ u = .p (.int .i64 (y : Int)) ∧ arr[i]? = some (.int .i64 (y : Int)) := fun i j l u h6 h7 => by
     rw [List.getElem?_map] at h6
     cases h8 : ((dstL (fInit F) (fEdge E) n).map tell)[i]? with
     | none => rw [h8] at h6; cases h6
     | some y =>
      rw [h8] at h6
      simp only [Option.map_some, Option.some.injEq] at h6
      subst h6
      cases j with
      | succ j => simp at h7
      | zero => simp at h7; exact ⟨y, rfl, h7.symm, hat i y h8⟩
    have hlen : (((dstL (fInit F) (fEdge E) n).map tell).map encN).length = n := by simp [hDl]
    show DRep w' (fun b => ¬ out b) (intsN ((dstL (fInit F) (fEdge E) n).map tell)) z
    cases h5 with
    | own _ _ _ hn hcap =>
     have key := DRep.sl (w := w') (q := fun b => ¬ out b) 1 8 (((dstL (fInit F) (fEdge E) n).map tell).map encN) (some ⟨(g' 21).1, 0, none⟩) (g' 21).2 (g' 21).1 0 (fun i j => arr.getD i undef) (by rw [hlen]; exact hn) (fun _ => ⟨rfl, fun hb => by have := ho _ hb; omega, (Array.getElem?_eq_some_iff.1 o1).1⟩) (by rw [hlen]; omega) (fun i j l u h6 h7 => by
      obtain ⟨y, rfl, _, h8⟩ := hrow i j l u h6 h7
      rw [cell_of_row w' _ _ _ _ _ o1]
      simp [Array.getD_eq_getD_getElem?, h8]) (fun i j l u h6 h7 => by
      obtain ⟨y, rfl, rfl, h8⟩ := hrow i j l u h6 h7
      simp only [Array.getD_eq_getD_getElem?, h8, Option.getD_some]
      exact .p _)
     rw [hlen] at key
     exact key
   | 1, hu =>
    simp only [List.getElem?_cons_succ, List.getElem?_cons_zero, Option.some.injEq] at hu
    subst hu
    rw [VRep.p_eq (hh 1 _ z rfl hz)]
    exact .d _ _ (.p _)
   | j + 2, hu => simp at hu
 exact ⟨_, x, rfl, .inr ⟨hall, rfl⟩, by simp [V.pure, V.has, V.hasL], (h3.repure zT8).mono Cells.rfl (fun b hb _ => hb.1) (fun r _ => rfl), h4⟩
def FE : Fam (List (Nat × Nat)) := ⟨104, 2, 16, fun _ => [], fun l => l.map fun e => [.p (.int .i64 (e.1 : Int)), .p (.int .i64 (e.2 : Int))]⟩
theorem am_Ends0 (m : Mach) : Fn Tryz.prog 34 [mV m] (resI (disE (enD m) m) (disL (enD m) m)) := by
 by_cases h0 : machE m = 0
 ·obtain ⟨h60, h400, hst, hz⟩ := machE_zero h0
  have hres := fun v => dis_res (D := enD m) (v := v) h0
  obtain ⟨st, sts⟩ := m
  simp only at h60 h400 hst hz
  have hal4 : ∀ x ∈ sts, x.arcs.length ≤ 400 := fun x hx => Nat.le_trans (arcN_mem sts x hx) h400
  have hFr : enF ⟨st, sts⟩ = bl (fun q => stF sts q) sts.length := rfl
  have hEr : enE ⟨st, sts⟩ = bl (fun p => eInto sts p sts.length) sts.length := rfl
  have hEl : ∀ l ∈ enE ⟨st, sts⟩, l.length ≤ 24000 ∧ ∀ p w, (p, w) ∈ l → p < sts.length ∧ w ≤ 1000000000 := by
   intro l hl
   obtain ⟨p0, hq⟩ := List.getElem?_of_mem hl
   obtain ⟨hqn, rfl⟩ := bl_inv hq
   refine ⟨by have := eInto_len hal4 p0 sts.length; (try simp only); omega, fun q w hpw => ?_⟩
   obtain ⟨q', a, h1, h2, _, h4⟩ := (eInto_mem _).1 hpw
   have h1 : q' < sts.length := h1
   simp only [Prod.mk.injEq] at h4
   have hx : sts[q']? = some sts[q'] := List.getElem?_eq_getElem h1
   rw [stA_of hx] at h2
   have h3 := (hz _ (List.getElem_mem h1)).2 a h2
   simp only [arOk, decide_eq_true_eq] at h3
   omega
  have hFx : ∀ x ∈ enF ⟨st, sts⟩, x ≤ 1000000001 := by
   intro x hx
   obtain ⟨q, hq⟩ := List.getElem?_of_mem hx
   obtain ⟨hqn, rfl⟩ := bl_inv hq
   have hx : sts[q]? = some sts[q] := List.getElem?_eq_getElem hqn
   have h1 := (hz _ (List.getElem_mem hqn)).1
   simp [finOk] at h1
   have h2 := stF_of hx
   unfold stF at h2
   (try simp only)
   omega
  have hfar := (am_far (enF ⟨st, sts⟩) (enE ⟨st, sts⟩) sts.length (bl_len _ _) (bl_len _ _) h60 hFx hEl).mono (fun v => hres v)
  obtain ⟨n, hn⟩ : ∃ n, sts.length = n := ⟨_, rfl⟩
  rw [hn] at h60 hst hz hFr hEr hEl
  refine Fn.intro (n := 66) ⟨Tryz.func34, rfl, rfl, rfl, rfl⟩ zT8 zT16 fun w0 out => ?_
  apply AW.sr
  refine AL.sm rfl (sm_box 1 rfl rfl rfl rfl rfl) ?_
  iterate 2 refine AL.z ?_
  apply AL.nil
  try simp only [nd, setL, V.cs, nz, Nat.reduceAdd, nm, ns, enum]
  apply AW.seq
  apply AW.sr
  refine AL.z ?_
  refine AL.call (post := ?pc0) rfl (sm_call (args := [_]) ?hc0 ⟨Tryz.func27, rfl, rfl, rfl, rfl⟩ rfl rfl rfl rfl) ?_
  case hc0 => exact Fn.eqi (am_Check ⟨st, sts⟩) h0
  rintro _ rfl -
  try dsimp only
  refine AL.z ?_
  apply AL.nil
  try simp only [nd, setL, V.cs, nz, Nat.reduceAdd, nm, ns]
  apply AW.sr
  iterate 2 refine AL.z ?_
  apply AL.nil
  try simp only [thenS, S.put, List.nil_append, List.cons_append]
  refine AW.condF rfl ?_
  apply AW.skip
  try simp only [thenS, List.nil_append, List.cons_append]
  apply AW.sr
  iterate 3 refine AL.z ?_
  refine AL.sm rfl (sm_make_map 19 V.i (0) Tryz.underlying42 inf3 rfl rfl rfl rfl rfl zT15 zT14 rfl rfl) ?_
  refine AL.z ?_
  apply AL.nil
  try simp only [nd, setL, V.cs, nz, Nat.reduceAdd, nm, ns]
  apply AW.sr
  iterate 3 refine AL.z ?_
  refine AL.sm rfl (sm_make1 23 Tryz.underlying101 inf102 rfl rfl rfl rfl zT15 zT14 (by first | rfl | (simp only [S.clean, S.put, S.newObj, List.all_cons, objs_clean_low, Nat.reduceLT]; simp [S.forget, V.has, V.hasL, junkIf, setL, V.cs, hasL_i, hasL_b, hasL_s, hasL_n, hasL_rep, hasL_flat, hasL_append, cells_hasL_low, has_ownV, hasL_frep, nb1, nb2, nb3, nb4, -List.map_set]; try omega)) rfl) ?_
  refine AL.z ?_
  apply AL.nil
  try simp only [nd, setL, V.cs, nz, Nat.reduceAdd, nm, ns]
  apply AW.seq
  apply AW.seq
  refine AW.famAdopt FE 1000 23 (List.replicate n []) rfl rfl (by rw [flatMap_rep]; simp [FE]) (by intro x hx; rw [List.eq_of_mem_replicate hx]; rfl) rfl ?_
  have hz0 : (List.replicate n (0 : Int)).map V.i = (bl (fun q => if q < 0 then stF sts q else 0) n).map V.n := by rw [show (bl (fun q => if q < 0 then stF sts q else 0) n) = List.replicate n 0 by rw [bl_rep]; exact bl_congr fun q _ => by simp]; simp
  have hb0 : (List.replicate n ([] : List (Nat × Nat))) = (bl (fun p => eInto sts p 0) n) := by rw [bl_rep]; rfl
  rw [hz0, hb0]
  apply AW.region
  iterate 4 refine AL.z ?_
  apply AL.nil
  try simp only [thenS, S.put, List.nil_append, List.cons_append]
  apply AW.block
  refine AW.loop (fun s' => ∃ k : Nat, k ≤ n ∧ s' = ⟨66, [(1, .ref 1 0), (5, .own 19 1 n false), (6, .own 23 1 n false), (25, .d (stsD sts)), (26, .i n), (27, .i k)], [(1, ⟨24, [.i st, .d (stsD sts)], false, 0⟩), (19, ⟨3, (bl (fun q => if q < k then stF sts q else 0) n).map V.n, false, 1⟩), (23, ⟨102, FE.cells 1000 (bl (fun p => eInto sts p k) n), false, 1⟩)] ++ FE.objs 1000 (bl (fun p => eInto sts p k) n), []⟩) (fun s' => n - s'.nat 27) ⟨_, ?_, 0, by omega, rfl⟩ ?_
  ·exact Less.a1
  rintro s' ⟨k, hk, rfl⟩
  by_cases hlt : k < n
  ·obtain ⟨x, hx⟩ := get_lt hn hlt
   obtain ⟨la, hla⟩ : ∃ n, x.arcs.length = n := ⟨_, rfl⟩
   have hla' := hal4 x (List.mem_of_getElem? hx)
   rw [hla] at hla'
   have hxf := (hz x (List.mem_of_getElem? hx)).1
   have hza := (hz x (List.mem_of_getElem? hx)).2
   have hkf := stF_of hx
   have hstA := stA_of hx
   obtain ⟨xf, xa⟩ := x
   simp only [finOk, decide_eq_true_eq] at hxf hla hza hstA
   obtain ⟨f, rfl⟩ : ∃ f : Nat, xf = f := ⟨xf.toNat, by omega⟩
   simp only [Int.toNat_natCast] at hkf
   have hkC : k < (bl (fun q => if q < k then stF sts q else 0) n).length := by rw [bl_len]; exact hlt
   have hCn : (bl (fun q => if q < k then stF sts q else 0) n).set k f = (bl (fun q => if q < (k + 1) then stF sts q else 0) n) := bl_set hlt (by rw [if_pos zT15, hkf]) fun q _ hq => by
    by_cases e : q < k
    ·rw [if_pos e, if_pos zT15]
    rw [if_neg e, if_neg zT15]
   apply AW.sr
   refine AL.z ?_
   apply AL.nil
   try simp only [thenS, S.put, List.nil_append, List.cons_append]
   apply AW.seq
   refine AW.condT rfl ?_
   apply AW.skip
   try simp only [thenS, List.nil_append, List.cons_append]
   apply AW.seq
   apply AW.block
   apply AW.sr
   iterate 3 refine AL.z ?_
   refine AL.sm rfl (sm_alloc (l := [.d (.p (.int .i64 0)), .d (.p (.slice none 0 0))]) 8 inf35 rfl (by first | rfl | (simp only [S.clean, S.put, S.newObj, List.all_cons, objs_clean_low, Nat.reduceLT]; simp [S.forget, V.has, V.hasL, junkIf, setL, V.cs, hasL_i, hasL_b, hasL_s, hasL_n, hasL_rep, hasL_flat, hasL_append, cells_hasL_low, has_ownV, hasL_frep, nb1, nb2, nb3, nb4, -List.map_set]; try omega)) rfl rfl) ?_
   refine AL.z ?_
   refine AL.y ?_
   apply AL.nil
   try simp only [nd, setL, V.cs, nz, Nat.reduceAdd, nm, ns]
   apply AW.sr
   iterate 5 refine AL.z ?_
   refine AL.st rfl (st_store_map2 (v := f) inf3 rfl rfl rfl rfl rfl rfl rfl rfl zT9) ?_
   apply AL.nil
   try simp only [nd, setL, V.cs, nz, Nat.reduceAdd, nm, ns]
   apply AW.sr
   iterate 4 refine AL.z ?_
   apply AL.nil
   try simp only [thenS, S.put, List.nil_append, List.cons_append]
   apply AW.block
   refine AW.loop (fun s' => ∃ i : Nat, i ≤ la ∧ s' = ⟨66, [(1, .ref 1 0), (5, .own 19 1 n false), (6, .own 23 1 n false), (7, .i k), (25, .d (stsD sts)), (26, .i n), (27, .i k), (38, .d (arsD xa)), (39, .i la), (40, .i i)], [(1, ⟨24, [.i st, .d (stsD sts)], false, 0⟩), (19, ⟨3, (bl (fun q => if q < (k + 1) then stF sts q else 0) n).map V.n, false, 1⟩), (23, ⟨102, FE.cells 1000 (bl (fun p => eInto sts p k ++ eTo p k (xa.take i)) n), false, 1⟩)] ++ FE.objs 1000 (bl (fun p => eInto sts p k ++ eTo p k (xa.take i)) n), []⟩) (fun s' => la - s'.nat 40) ⟨_, ?_, 0, by omega, rfl⟩ ?_
   ·have e : (bl (fun p => eInto sts p k ++ eTo p k (xa.take 0)) n) = (bl (fun p => eInto sts p k) n) := bl_congr fun q _ => by simp [eTo]
    rw [e, ← hCn]
    exact Less.a1
   rintro s' ⟨i, hi, rfl⟩
   by_cases hil : i < la
   ·obtain ⟨y, hy⟩ := get_lt hla hil
    have hyt := hza y (List.mem_of_getElem? hy)
    have hsn := fun p => eTo_snoc p k hy
    obtain ⟨yi, yo, yw, yt⟩ := y
    simp only [arOk, decide_eq_true_eq] at hyt
    obtain ⟨p, rfl⟩ : ∃ p : Nat, yt = p := ⟨yt.toNat, by omega⟩
    obtain ⟨w, rfl⟩ : ∃ w : Nat, yw = w := ⟨yw.toNat, by omega⟩
    have hpn : p < n := by omega
    obtain ⟨Pf, hPf⟩ : ∃ P, eInto sts p k ++ eTo p k (xa.take i) = P := ⟨_, rfl⟩
    have hPl : Pf.length ≤ 24400 := by
     have h1 := eInto_len hal4 p k
     have h2 := eTo_len p k (xa.take i)
     rw [List.length_take] at h2
     rw [← hPf, List.length_append]
     omega
    have hp0 : (bl (fun p => eInto sts p k ++ eTo p k (xa.take i)) n)[p]? = some Pf := by rw [bl_get hpn, ← hPf]
    have hkl := (List.getElem?_eq_some_iff.1 hp0).1
    have hset : ((bl (fun p => eInto sts p k ++ eTo p k (xa.take i)) n).set p (Pf ++ [(k, w)]))[p]? = some (Pf ++ [(k, w)]) := by rw [List.getElem?_set_self hkl]
    have hlen0 : (FE.it Pf).length ≤ 1000000 := by simp [FE]; omega
    have hnext : (bl (fun p => eInto sts p k ++ eTo p k (xa.take i)) n).set p (Pf ++ [(k, w)]) = (bl (fun p => eInto sts p k ++ eTo p k (xa.take (i + 1))) n) := bl_set hpn (by rw [hsn p, if_pos rfl, ← List.append_assoc, hPf]; simp) fun q _ hq => by
     rw [hsn q, if_neg (by simp only; omega), List.append_nil]
    apply AW.sr
    refine AL.z ?_
    apply AL.nil
    try simp only [thenS, S.put, List.nil_append, List.cons_append]
    apply AW.seq
    refine AW.condT rfl ?_
    apply AW.skip
    try simp only [thenS, List.nil_append, List.cons_append]
    apply AW.seq
    apply AW.block
    apply AW.sr
    iterate 2 refine AL.z ?_
    refine AL.sm rfl (sm_alloc (l := [.d (.p (.int .i64 0)), .d (.p (.int .i64 0)), .d (.p (.int .i64 0)), .d (.p (.int .i64 0))]) 10 inf47 rfl (by first | rfl | (simp only [S.clean, S.put, S.newObj, List.all_cons, objs_clean_low, Nat.reduceLT]; simp [S.forget, V.has, V.hasL, junkIf, setL, V.cs, hasL_i, hasL_b, hasL_s, hasL_n, hasL_rep, hasL_flat, hasL_append, cells_hasL_low, has_ownV, hasL_frep, nb1, nb2, nb3, nb4, -List.map_set]; try omega)) rfl rfl) ?_
    refine AL.y ?_
    apply AL.nil
    try simp only [nd, setL, V.cs, nz, Nat.reduceAdd, nm, ns]
    refine AW.drawX (1000 + p) [(0, true), (1, true), (2, true), (3, true), (4, true), (5, true), (6, true), (7, true), (8, true), (9, true), (10, true), (11, true), (12, false), (13, false), (14, false), (15, false)] (fun i => !([14, 15] : List Nat).contains i) 16 zT12 zT12 rfl zT12 ?_
    refine AE1.rp rfl rfl rfl (fun _ _ h => h) (rp_move rfl rfl) ?_
    refine AE1.rp rfl rfl rfl (fun _ _ h => h) (rp_field_ref Tryz.underlying47 rfl rfl rfl inf3 zT14 rfl) ?_
    refine AE1.rx rfl rfl rfl (fun _ _ h => h) (rx_load_ref Tryz.underlying3 rfl rfl rfl rfl rfl rfl zT10) ?_
    refine AE1.rp rfl rfl rfl (fun _ _ h => h) (rp_move rfl rfl) ?_
    refine AE1.rp rfl rfl rfl (fun _ _ h => h) (rp_field_ref Tryz.underlying47 rfl rfl rfl inf3 zT14 rfl) ?_
    refine AE1.rx rfl rfl rfl (fun _ _ h => h) (rx_load_ref Tryz.underlying3 rfl rfl rfl rfl rfl rfl zT10) ?_
    refine AE1.rp rfl rfl rfl (fun _ _ h => h) (rp_index_own Tryz.underlying101 inf102 rfl rfl rfl rfl zT9) ?_
    refine AE1.rx rfl rfl rfl (fun _ _ h => h) (rx_load_fam (m := 0) Tryz.underlying102 rfl rfl rfl rfl rfl rfl (fun _ => rfl) rfl zT13 zT10) ?_
    refine AE1.rp rfl rfl rfl (fun _ _ h => h) (rp_move rfl rfl) ?_
    refine AE1.rp rfl rfl rfl (fun _ _ h => h) (rp_field_ref Tryz.underlying47 rfl rfl rfl inf3 zT14 rfl) ?_
    refine AE1.rx rfl rfl rfl (fun _ _ h => h) (rx_load_ref Tryz.underlying3 rfl rfl rfl rfl rfl rfl zT10) ?_
    refine AE1.rp rfl rfl rfl (fun _ _ h => h) (rp_build (vs := [(0, _), (1, _)]) (zs := [.d (.p (.int .i64 0)), .d (.p (.int .i64 0))]) pl104 inf104 rfl rfl rfl rfl) ?_
    refine AE1.go ?_
    refine AE2.sm rfl rfl (sm_sliceG (vs := [(0, _)]) (zs := [.d (.p (.int .i64 0)), .d (.p (.int .i64 0))]) 56 Tryz.underlying102 inf104 rfl rfl zT14 zT14 zT14 rfl rfl rfl rfl (by first | rfl | (simp only [S.clean, S.put, S.newObj, List.all_cons, objs_clean_low, Nat.reduceLT]; simp [S.forget, V.has, V.hasL, junkIf, setL, V.cs, hasL_i, hasL_b, hasL_s, hasL_n, hasL_rep, hasL_flat, hasL_append, cells_hasL_low, has_ownV, hasL_frep, nb1, nb2, nb3, nb4, -List.map_set]; try omega)) rfl rfl) zT10 ?_
    (refine AE2.st rfl rfl (st_append_famX (lits := [_, _, _, _, _, _]) (x' := Pf ++ [(k, w)]) (m := 0) (newrow := [.p (.int .i64 (k : Int)), .p (.int .i64 (w : Int))]) (rb := 23) Tryz.underlying102 inf104 rfl zT14 zT14 rfl rfl rfl zT13 (fun _ => rfl) (by intro x l hl; simp [FE] at hl; first | (obtain ⟨_, _, rfl⟩ := hl; rfl) | (obtain ⟨_, _, _, rfl⟩ := hl; rfl) | (rcases hl with ⟨_, _, rfl⟩ <;> rfl)) rfl rfl rfl rfl rfl rfl rfl rfl (by simp [FE]) rfl rfl (by simp [V.hasL, V.has, nb1, nb2, nb3, nb4, setL, V.cs, hasL_i, hasL_b, hasL_s, hasL_n, hasL_rep, hasL_flat, hasL_append, -List.map_set]; try omega) (by first | assumption | (simp [FE]; omega))) ?_)
    try simp only [S.put, S.newObj, List.map_cons, List.map_nil, junkHi, V.low, V.lowL, low_ownV, Nat.reduceLT, decide_true, decide_false, Bool.and_true, Bool.true_and, if_true, if_false, Bool.false_eq_true, ite_true, ite_false, ↓reduceIte, List.cons_append, List.nil_append]
    refine AD3.rp1 rfl rfl rfl rfl (rp_index_own Tryz.underlying101 inf102 rfl rfl rfl rfl zT9) ?_
    (refine AD3.st rfl rfl rfl (st_store_fam (m := 0) inf102 rfl rfl rfl rfl rfl rfl (fun _ => rfl) rfl rfl (by first | assumption | (simp; omega))) ?_)
    refine AD3.nil ?_
    try simp only [nd, setL, V.cs, nz, Nat.reduceAdd, nm, ns]
    apply AW.region
    iterate 2 refine AL.z ?_
    apply AL.nil
    try simp only [thenS, S.put, List.nil_append, List.cons_append]
    refine ⟨_, ?_, ⟨i + 1, by omega, rfl⟩, ?_⟩
    ·rw [← hnext]; exact Less.a1
    simp [S.nat, fnd]; omega
   have e : (bl (fun p => eInto sts p k ++ eTo p k (xa.take i)) n) = (bl (fun p => eInto sts p (k + 1)) n) := bl_congr fun q _ => by rw [List.take_of_length_le zT15, eInto, hstA]
   rw [e]
   apply AW.sr
   refine AL.z ?_
   apply AL.nil
   try simp only [thenS, S.put, List.nil_append, List.cons_append]
   apply AW.seq
   refine AW.condF rfl ?_
   refine AW.exit ?_
   try simp only [thenS, inBlockS, ↓reduceIte, Nat.reduceEqDiff, List.nil_append, List.cons_append]
   apply AW.region
   iterate 2 refine AL.z ?_
   apply AL.nil
   try simp only [thenS, S.put, List.nil_append, List.cons_append]
   refine ⟨_, ?_, ⟨k + 1, by omega, rfl⟩, ?_⟩
   ·exact Less.a1
   simp [S.nat, fnd]; omega
  obtain rfl : k = n := by omega
  obtain ⟨n, rfl⟩ : ∃ n, n = k := ⟨_, rfl⟩
  have hBe : (bl (fun p => eInto sts p n) n) = (enE ⟨st, sts⟩) := by rw [hEr]
  have hCe : (bl (fun q => if q < n then stF sts q else 0) n) = (enF ⟨st, sts⟩) := by rw [hFr]; exact bl_congr fun q hq => by rw [if_pos hq]
  rw [hBe, hCe]
  apply AW.sr
  refine AL.z ?_
  apply AL.nil
  try simp only [thenS, S.put, List.nil_append, List.cons_append]
  apply AW.seq
  refine AW.condF rfl ?_
  refine AW.exit ?_
  try simp only [thenS, inBlockS, ↓reduceIte, Nat.reduceEqDiff, List.nil_append, List.cons_append]
  apply AW.seq
  refine AW.less (s' := ⟨66, [(1, .ref 1 0), (5, .own 19 1 n false), (6, .own 23 1 n false)], [(1, ⟨24, [.i st, .d (stsD sts)], false, 0⟩), (19, ⟨3, (enF ⟨st, sts⟩).map V.n, false, 1⟩), (23, ⟨102, FE.cells 1000 (enE ⟨st, sts⟩), false, 1⟩)] ++ FE.objs 1000 (enE ⟨st, sts⟩), []⟩) Less.a1 ?_
  refine AW.famFreeze (F := FE) (m := 0) (base := 1000) (L := (enE ⟨st, sts⟩)) [_, _, _] 23 rfl rfl rfl rfl (fun _ => rfl) (by intro x l hl; simp [FE] at hl; obtain ⟨_, _, _, rfl⟩ := hl; rfl) ?_ rfl (by simp [V.hasL, V.has]) rfl rfl ?_
  ·intro l hl
   have := (hEl l hl).1
   simp [FE]; omega
  refine AW.freeze 6 24 ((enE ⟨st, sts⟩).map FE.data) rfl rfl rfl (by rw [List.length_map, hEr, bl_len]) zT15 (rowsF (sz := 1) (fun _ => rfl) rfl) ?_
  refine AW.freeze 5 8 ((enF ⟨st, sts⟩).map encN) rfl rfl rfl (by rw [List.length_map, hFr, bl_len]) zT15 (rows1 rfl) ?_
  refine AW.less (s' := ⟨66, [(1, .ref 1 0), (5, .d (intsN (enF ⟨st, sts⟩))), (6, .d (.sl 1 24 ((enE ⟨st, sts⟩).map encE)))], [(1, ⟨24, [.i st, .d (stsD sts)], false, 0⟩)], []⟩) Less.a1 ?_
  by_cases he : disE (enD ⟨st, sts⟩) ⟨st, sts⟩ = 0
  ·have hcon := resI_eq hfar he
   apply AW.region
   iterate 2 refine AL.z ?_
   refine AL.call (post := ?pc1) rfl (sm_call (args := [_, _]) ?hc1 ⟨Tryz.func73, rfl, rfl, rfl, rfl⟩ rfl rfl rfl rfl) ?_
   case hc1 => exact hcon
   rintro _ rfl -
   try dsimp only
   iterate 4 refine AL.z ?_
   apply AL.nil
   try simp only [nd, setL, V.cs, nz, Nat.reduceAdd, nm, ns]
   apply AW.ret
   exact ⟨[_, _], ⟨rfl, rfl, trivial⟩, .inr ⟨he, rfl⟩, by simp [tupOf, V.pure, V.has, V.hasL]⟩
  have hcon := resI_ne hfar he
  apply AW.region
  iterate 2 refine AL.z ?_
  refine AL.call (post := ?pc2) rfl (sm_call (args := [_, _]) ?hc2 ⟨Tryz.func73, rfl, rfl, rfl, rfl⟩ rfl rfl rfl rfl) ?_
  case hc2 => exact hcon
  rintro _ rfl -
  try dsimp only
  iterate 4 refine AL.z ?_
  apply AL.nil
  try simp only [nd, setL, V.cs, nz, Nat.reduceAdd, nm, ns]
  apply AW.ret
  exact ⟨[_, _], ⟨rfl, rfl, trivial⟩, .inl ⟨he, rfl⟩, by simp [tupOf, V.pure, V.has, V.hasL]⟩
 have hE : disE (enD m) m = machE m := by unfold disE; rw [if_pos h0]
 have hL : disL (enD m) m = [] := by unfold disL; rw [if_neg (by rw [hE]; exact h0)]
 rw [hE, hL]
 obtain ⟨st, sts⟩ := m
 obtain ⟨e, he⟩ : ∃ e, machE ⟨st, sts⟩ = e := ⟨_, rfl⟩
 rw [he] at h0 ⊢
 refine Fn.intro (n := 66) ⟨Tryz.func34, rfl, rfl, rfl, rfl⟩ zT8 zT16 fun w0 out => ?_
 apply AW.sr
 refine AL.sm rfl (sm_box 1 rfl rfl rfl rfl rfl) ?_
 iterate 2 refine AL.z ?_
 apply AL.nil
 try simp only [nd, setL, V.cs, nz, Nat.reduceAdd, nm, ns, enum]
 apply AW.seq
 apply AW.sr
 refine AL.z ?_
 refine AL.call (post := ?pc3) rfl (sm_call (args := [_]) ?hc3 ⟨Tryz.func27, rfl, rfl, rfl, rfl⟩ rfl rfl rfl rfl) ?_
 case hc3 => exact Fn.eqi (am_Check ⟨st, sts⟩) he
 rintro _ rfl -
 try dsimp only
 refine AL.z ?_
 apply AL.nil
 try simp only [nd, setL, V.cs, nz, Nat.reduceAdd, nm, ns]
 apply AW.sr
 iterate 2 refine AL.z ?_
 apply AL.nil
 try simp only [thenS, S.put, List.nil_append, List.cons_append]
 refine AW.condT rfl ?_
 apply AW.sr
 iterate 3 refine AL.z ?_
 apply AL.nil
 try simp only [thenS, S.put, List.nil_append, List.cons_append]
 apply AW.ret
 exact ⟨[_, _], ⟨rfl, rfl, trivial⟩, .inl ⟨h0, rfl⟩, by simp [tupOf, V.pure, V.has, V.hasL]⟩
theorem am_EndsO (m : Mach) (h0 : machE m = 0) (he : disE (enD m) m = 0) : FnO Tryz.prog 34 [mV m] (fun v H => v = .tup [.own 21 1 m.states.length false, .i 0] ∧ H = [(21, ⟨3, (disL (enD m) m).map V.n, false, 1⟩)]) := by
  obtain ⟨h60, h400, hst, hz⟩ := machE_zero h0
  have hall : (enD m).all okD = true := by
   unfold disE at he
   rw [if_neg (by simp [h0])] at he
   by_cases hh : (enD m).all okD = true
   ·exact hh
   rw [if_neg hh] at he; cases he
  have hLe : disL (enD m) m = (enD m).map tell := by unfold disL; rw [if_pos he]
  rw [hLe]
  obtain ⟨st, sts⟩ := m
  simp only at h60 h400 hst hz
  have hal4 : ∀ x ∈ sts, x.arcs.length ≤ 400 := fun x hx => Nat.le_trans (arcN_mem sts x hx) h400
  have hFr : enF ⟨st, sts⟩ = bl (fun q => stF sts q) sts.length := rfl
  have hEr : enE ⟨st, sts⟩ = bl (fun p => eInto sts p sts.length) sts.length := rfl
  have hEl : ∀ l ∈ enE ⟨st, sts⟩, l.length ≤ 24000 ∧ ∀ p w, (p, w) ∈ l → p < sts.length ∧ w ≤ 1000000000 := by
   intro l hl
   obtain ⟨p0, hq⟩ := List.getElem?_of_mem hl
   obtain ⟨hqn, rfl⟩ := bl_inv hq
   refine ⟨by have := eInto_len hal4 p0 sts.length; (try simp only); omega, fun q w hpw => ?_⟩
   obtain ⟨q', a, h1, h2, _, h4⟩ := (eInto_mem _).1 hpw
   have h1 : q' < sts.length := h1
   simp only [Prod.mk.injEq] at h4
   have hx : sts[q']? = some sts[q'] := List.getElem?_eq_getElem h1
   rw [stA_of hx] at h2
   have h3 := (hz _ (List.getElem_mem h1)).2 a h2
   simp only [arOk, decide_eq_true_eq] at h3
   omega
  have hFx : ∀ x ∈ enF ⟨st, sts⟩, x ≤ 1000000001 := by
   intro x hx
   obtain ⟨q, hq⟩ := List.getElem?_of_mem hx
   obtain ⟨hqn, rfl⟩ := bl_inv hq
   have hx : sts[q]? = some sts[q] := List.getElem?_eq_getElem hqn
   have h1 := (hz _ (List.getElem_mem hqn)).1
   simp [finOk] at h1
   have h2 := stF_of hx
   unfold stF at h2
   (try simp only)
   omega
  have hfar := am_farO (enF ⟨st, sts⟩) (enE ⟨st, sts⟩) sts.length (bl_len _ _) (bl_len _ _) h60 hFx hEl hall
  obtain ⟨D, hDd⟩ : ∃ D, (enD ⟨st, sts⟩).map tell = D := ⟨_, rfl⟩
  have hfar : FnO Tryz.prog 73 [.d (intsN (enF ⟨st, sts⟩)), .d (.sl 1 24 ((enE ⟨st, sts⟩).map encE))] (fun v H => v = .tup [.own 21 1 sts.length false, .i 0] ∧ H = [(21, ⟨3, D.map V.n, false, 1⟩)]) := by rw [← hDd]; exact hfar
  rw [hDd]
  obtain ⟨n, hn⟩ : ∃ n, sts.length = n := ⟨_, rfl⟩
  rw [hn] at h60 hst hz hFr hEr hEl hfar
  refine FnO.intro (n := 66) ⟨Tryz.func34, rfl, rfl, rfl, rfl⟩ zT8 zT16 fun w0 out => ?_
  apply AW.sr
  refine AL.sm rfl (sm_box 1 rfl rfl rfl rfl rfl) ?_
  iterate 2 refine AL.z ?_
  apply AL.nil
  try simp only [nd, setL, V.cs, nz, Nat.reduceAdd, nm, ns, enum]
  apply AW.seq
  apply AW.sr
  refine AL.z ?_
  refine AL.call (post := ?pc39) rfl (sm_call (args := [_]) ?hc39 ⟨Tryz.func27, rfl, rfl, rfl, rfl⟩ rfl rfl rfl rfl) ?_
  case hc39 => exact Fn.eqi (am_Check ⟨st, sts⟩) h0
  rintro _ rfl -
  try dsimp only
  refine AL.z ?_
  apply AL.nil
  try simp only [nd, setL, V.cs, nz, Nat.reduceAdd, nm, ns]
  apply AW.sr
  iterate 2 refine AL.z ?_
  apply AL.nil
  try simp only [thenS, S.put, List.nil_append, List.cons_append]
  refine AW.condF rfl ?_
  apply AW.skip
  try simp only [thenS, List.nil_append, List.cons_append]
  apply AW.sr
  iterate 3 refine AL.z ?_
  refine AL.sm rfl (sm_make_map 19 V.i (0) Tryz.underlying42 inf3 rfl rfl rfl rfl rfl zT15 zT14 rfl rfl) ?_
  refine AL.z ?_
  apply AL.nil
  try simp only [nd, setL, V.cs, nz, Nat.reduceAdd, nm, ns]
  apply AW.sr
  iterate 3 refine AL.z ?_
  refine AL.sm rfl (sm_make1 23 Tryz.underlying101 inf102 rfl rfl rfl rfl zT15 zT14 (by first | rfl | (simp only [S.clean, S.put, S.newObj, List.all_cons, objs_clean_low, Nat.reduceLT]; simp [S.forget, V.has, V.hasL, junkIf, setL, V.cs, hasL_i, hasL_b, hasL_s, hasL_n, hasL_rep, hasL_flat, hasL_append, cells_hasL_low, has_ownV, hasL_frep, nb1, nb2, nb3, nb4, -List.map_set]; try omega)) rfl) ?_
  refine AL.z ?_
  apply AL.nil
  try simp only [nd, setL, V.cs, nz, Nat.reduceAdd, nm, ns]
  apply AW.seq
  apply AW.seq
  refine AW.famAdopt FE 1000 23 (List.replicate n []) rfl rfl (by rw [flatMap_rep]; simp [FE]) (by intro x hx; rw [List.eq_of_mem_replicate hx]; rfl) rfl ?_
  have hz0 : (List.replicate n (0 : Int)).map V.i = (bl (fun q => if q < 0 then stF sts q else 0) n).map V.n := by rw [show (bl (fun q => if q < 0 then stF sts q else 0) n) = List.replicate n 0 by rw [bl_rep]; exact bl_congr fun q _ => by simp]; simp
  have hb0 : (List.replicate n ([] : List (Nat × Nat))) = (bl (fun p => eInto sts p 0) n) := by rw [bl_rep]; rfl
  rw [hz0, hb0]
  apply AW.region
  iterate 4 refine AL.z ?_
  apply AL.nil
  try simp only [thenS, S.put, List.nil_append, List.cons_append]
  apply AW.block
  refine AW.loop (fun s' => ∃ k : Nat, k ≤ n ∧ s' = ⟨66, [(1, .ref 1 0), (5, .own 19 1 n false), (6, .own 23 1 n false), (25, .d (stsD sts)), (26, .i n), (27, .i k)], [(1, ⟨24, [.i st, .d (stsD sts)], false, 0⟩), (19, ⟨3, (bl (fun q => if q < k then stF sts q else 0) n).map V.n, false, 1⟩), (23, ⟨102, FE.cells 1000 (bl (fun p => eInto sts p k) n), false, 1⟩)] ++ FE.objs 1000 (bl (fun p => eInto sts p k) n), []⟩) (fun s' => n - s'.nat 27) ⟨_, ?_, 0, by omega, rfl⟩ ?_
  ·exact Less.a1
  rintro s' ⟨k, hk, rfl⟩
  by_cases hlt : k < n
  ·obtain ⟨x, hx⟩ := get_lt hn hlt
   obtain ⟨la, hla⟩ : ∃ n, x.arcs.length = n := ⟨_, rfl⟩
   have hla' := hal4 x (List.mem_of_getElem? hx)
   rw [hla] at hla'
   have hxf := (hz x (List.mem_of_getElem? hx)).1
   have hza := (hz x (List.mem_of_getElem? hx)).2
   have hkf := stF_of hx
   have hstA := stA_of hx
   obtain ⟨xf, xa⟩ := x
   simp only [finOk, decide_eq_true_eq] at hxf hla hza hstA
   obtain ⟨f, rfl⟩ : ∃ f : Nat, xf = f := ⟨xf.toNat, by omega⟩
   simp only [Int.toNat_natCast] at hkf
   have hkC : k < (bl (fun q => if q < k then stF sts q else 0) n).length := by rw [bl_len]; exact hlt
   have hCn : (bl (fun q => if q < k then stF sts q else 0) n).set k f = (bl (fun q => if q < (k + 1) then stF sts q else 0) n) := bl_set hlt (by rw [if_pos zT15, hkf]) fun q _ hq => by
    by_cases e : q < k
    ·rw [if_pos e, if_pos zT15]
    rw [if_neg e, if_neg zT15]
   apply AW.sr
   refine AL.z ?_
   apply AL.nil
   try simp only [thenS, S.put, List.nil_append, List.cons_append]
   apply AW.seq
   refine AW.condT rfl ?_
   apply AW.skip
   try simp only [thenS, List.nil_append, List.cons_append]
   apply AW.seq
   apply AW.block
   apply AW.sr
   iterate 3 refine AL.z ?_
   refine AL.sm rfl (sm_alloc (l := [.d (.p (.int .i64 0)), .d (.p (.slice none 0 0))]) 8 inf35 rfl (by first | rfl | (simp only [S.clean, S.put, S.newObj, List.all_cons, objs_clean_low, Nat.reduceLT]; simp [S.forget, V.has, V.hasL, junkIf, setL, V.cs, hasL_i, hasL_b, hasL_s, hasL_n, hasL_rep, hasL_flat, hasL_append, cells_hasL_low, has_ownV, hasL_frep, nb1, nb2, nb3, nb4, -List.map_set]; try omega)) rfl rfl) ?_
   refine AL.z ?_
   refine AL.y ?_
   apply AL.nil
   try simp only [nd, setL, V.cs, nz, Nat.reduceAdd, nm, ns]
   apply AW.sr
   iterate 5 refine AL.z ?_
   refine AL.st rfl (st_store_map2 (v := f) inf3 rfl rfl rfl rfl rfl rfl rfl rfl zT9) ?_
   apply AL.nil
   try simp only [nd, setL, V.cs, nz, Nat.reduceAdd, nm, ns]
   apply AW.sr
   iterate 4 refine AL.z ?_
   apply AL.nil
   try simp only [thenS, S.put, List.nil_append, List.cons_append]
   apply AW.block
   refine AW.loop (fun s' => ∃ i : Nat, i ≤ la ∧ s' = ⟨66, [(1, .ref 1 0), (5, .own 19 1 n false), (6, .own 23 1 n false), (7, .i k), (25, .d (stsD sts)), (26, .i n), (27, .i k), (38, .d (arsD xa)), (39, .i la), (40, .i i)], [(1, ⟨24, [.i st, .d (stsD sts)], false, 0⟩), (19, ⟨3, (bl (fun q => if q < (k + 1) then stF sts q else 0) n).map V.n, false, 1⟩), (23, ⟨102, FE.cells 1000 (bl (fun p => eInto sts p k ++ eTo p k (xa.take i)) n), false, 1⟩)] ++ FE.objs 1000 (bl (fun p => eInto sts p k ++ eTo p k (xa.take i)) n), []⟩) (fun s' => la - s'.nat 40) ⟨_, ?_, 0, by omega, rfl⟩ ?_
   ·have e : (bl (fun p => eInto sts p k ++ eTo p k (xa.take 0)) n) = (bl (fun p => eInto sts p k) n) := bl_congr fun q _ => by simp [eTo]
    rw [e, ← hCn]
    exact Less.a1
   rintro s' ⟨i, hi, rfl⟩
   by_cases hil : i < la
   ·obtain ⟨y, hy⟩ := get_lt hla hil
    have hyt := hza y (List.mem_of_getElem? hy)
    have hsn := fun p => eTo_snoc p k hy
    obtain ⟨yi, yo, yw, yt⟩ := y
    simp only [arOk, decide_eq_true_eq] at hyt
    obtain ⟨p, rfl⟩ : ∃ p : Nat, yt = p := ⟨yt.toNat, by omega⟩
    obtain ⟨w, rfl⟩ : ∃ w : Nat, yw = w := ⟨yw.toNat, by omega⟩
    have hpn : p < n := by omega
    obtain ⟨Pf, hPf⟩ : ∃ P, eInto sts p k ++ eTo p k (xa.take i) = P := ⟨_, rfl⟩
    have hPl : Pf.length ≤ 24400 := by
     have h1 := eInto_len hal4 p k
     have h2 := eTo_len p k (xa.take i)
     rw [List.length_take] at h2
     rw [← hPf, List.length_append]
     omega
    have hp0 : (bl (fun p => eInto sts p k ++ eTo p k (xa.take i)) n)[p]? = some Pf := by rw [bl_get hpn, ← hPf]
    have hkl := (List.getElem?_eq_some_iff.1 hp0).1
    have hset : ((bl (fun p => eInto sts p k ++ eTo p k (xa.take i)) n).set p (Pf ++ [(k, w)]))[p]? = some (Pf ++ [(k, w)]) := by rw [List.getElem?_set_self hkl]
    have hlen0 : (FE.it Pf).length ≤ 1000000 := by simp [FE]; omega
    have hnext : (bl (fun p => eInto sts p k ++ eTo p k (xa.take i)) n).set p (Pf ++ [(k, w)]) = (bl (fun p => eInto sts p k ++ eTo p k (xa.take (i + 1))) n) := bl_set hpn (by rw [hsn p, if_pos rfl, ← List.append_assoc, hPf]; simp) fun q _ hq => by
     rw [hsn q, if_neg (by simp only; omega), List.append_nil]
    apply AW.sr
    refine AL.z ?_
    apply AL.nil
    try simp only [thenS, S.put, List.nil_append, List.cons_append]
    apply AW.seq
    refine AW.condT rfl ?_
    apply AW.skip
    try simp only [thenS, List.nil_append, List.cons_append]
    apply AW.seq
    apply AW.block
    apply AW.sr
    iterate 2 refine AL.z ?_
    refine AL.sm rfl (sm_alloc (l := [.d (.p (.int .i64 0)), .d (.p (.int .i64 0)), .d (.p (.int .i64 0)), .d (.p (.int .i64 0))]) 10 inf47 rfl (by first | rfl | (simp only [S.clean, S.put, S.newObj, List.all_cons, objs_clean_low, Nat.reduceLT]; simp [S.forget, V.has, V.hasL, junkIf, setL, V.cs, hasL_i, hasL_b, hasL_s, hasL_n, hasL_rep, hasL_flat, hasL_append, cells_hasL_low, has_ownV, hasL_frep, nb1, nb2, nb3, nb4, -List.map_set]; try omega)) rfl rfl) ?_
    refine AL.y ?_
    apply AL.nil
    try simp only [nd, setL, V.cs, nz, Nat.reduceAdd, nm, ns]
    refine AW.drawX (1000 + p) [(0, true), (1, true), (2, true), (3, true), (4, true), (5, true), (6, true), (7, true), (8, true), (9, true), (10, true), (11, true), (12, false), (13, false), (14, false), (15, false)] (fun i => !([14, 15] : List Nat).contains i) 16 zT12 zT12 rfl zT12 ?_
    refine AE1.rp rfl rfl rfl (fun _ _ h => h) (rp_move rfl rfl) ?_
    refine AE1.rp rfl rfl rfl (fun _ _ h => h) (rp_field_ref Tryz.underlying47 rfl rfl rfl inf3 zT14 rfl) ?_
    refine AE1.rx rfl rfl rfl (fun _ _ h => h) (rx_load_ref Tryz.underlying3 rfl rfl rfl rfl rfl rfl zT10) ?_
    refine AE1.rp rfl rfl rfl (fun _ _ h => h) (rp_move rfl rfl) ?_
    refine AE1.rp rfl rfl rfl (fun _ _ h => h) (rp_field_ref Tryz.underlying47 rfl rfl rfl inf3 zT14 rfl) ?_
    refine AE1.rx rfl rfl rfl (fun _ _ h => h) (rx_load_ref Tryz.underlying3 rfl rfl rfl rfl rfl rfl zT10) ?_
    refine AE1.rp rfl rfl rfl (fun _ _ h => h) (rp_index_own Tryz.underlying101 inf102 rfl rfl rfl rfl zT9) ?_
    refine AE1.rx rfl rfl rfl (fun _ _ h => h) (rx_load_fam (m := 0) Tryz.underlying102 rfl rfl rfl rfl rfl rfl (fun _ => rfl) rfl zT13 zT10) ?_
    refine AE1.rp rfl rfl rfl (fun _ _ h => h) (rp_move rfl rfl) ?_
    refine AE1.rp rfl rfl rfl (fun _ _ h => h) (rp_field_ref Tryz.underlying47 rfl rfl rfl inf3 zT14 rfl) ?_
    refine AE1.rx rfl rfl rfl (fun _ _ h => h) (rx_load_ref Tryz.underlying3 rfl rfl rfl rfl rfl rfl zT10) ?_
    refine AE1.rp rfl rfl rfl (fun _ _ h => h) (rp_build (vs := [(0, _), (1, _)]) (zs := [.d (.p (.int .i64 0)), .d (.p (.int .i64 0))]) pl104 inf104 rfl rfl rfl rfl) ?_
    refine AE1.go ?_
    refine AE2.sm rfl rfl (sm_sliceG (vs := [(0, _)]) (zs := [.d (.p (.int .i64 0)), .d (.p (.int .i64 0))]) 56 Tryz.underlying102 inf104 rfl rfl zT14 zT14 zT14 rfl rfl rfl rfl (by first | rfl | (simp only [S.clean, S.put, S.newObj, List.all_cons, objs_clean_low, Nat.reduceLT]; simp [S.forget, V.has, V.hasL, junkIf, setL, V.cs, hasL_i, hasL_b, hasL_s, hasL_n, hasL_rep, hasL_flat, hasL_append, cells_hasL_low, has_ownV, hasL_frep, nb1, nb2, nb3, nb4, -List.map_set]; try omega)) rfl rfl) zT10 ?_
    (refine AE2.st rfl rfl (st_append_famX (lits := [_, _, _, _, _, _]) (x' := Pf ++ [(k, w)]) (m := 0) (newrow := [.p (.int .i64 (k : Int)), .p (.int .i64 (w : Int))]) (rb := 23) Tryz.underlying102 inf104 rfl zT14 zT14 rfl rfl rfl zT13 (fun _ => rfl) (by intro x l hl; simp [FE] at hl; first | (obtain ⟨_, _, rfl⟩ := hl; rfl) | (obtain ⟨_, _, _, rfl⟩ := hl; rfl) | (rcases hl with ⟨_, _, rfl⟩ <;> rfl)) rfl rfl rfl rfl rfl rfl rfl rfl (by simp [FE]) rfl rfl (by simp [V.hasL, V.has, nb1, nb2, nb3, nb4, setL, V.cs, hasL_i, hasL_b, hasL_s, hasL_n, hasL_rep, hasL_flat, hasL_append, -List.map_set]; try omega) (by first | assumption | (simp [FE]; omega))) ?_)
    try simp only [S.put, S.newObj, List.map_cons, List.map_nil, junkHi, V.low, V.lowL, low_ownV, Nat.reduceLT, decide_true, decide_false, Bool.and_true, Bool.true_and, if_true, if_false, Bool.false_eq_true, ite_true, ite_false, ↓reduceIte, List.cons_append, List.nil_append]
    refine AD3.rp1 rfl rfl rfl rfl (rp_index_own Tryz.underlying101 inf102 rfl rfl rfl rfl zT9) ?_
    (refine AD3.st rfl rfl rfl (st_store_fam (m := 0) inf102 rfl rfl rfl rfl rfl rfl (fun _ => rfl) rfl rfl (by first | assumption | (simp; omega))) ?_)
    refine AD3.nil ?_
    try simp only [nd, setL, V.cs, nz, Nat.reduceAdd, nm, ns]
    apply AW.region
    iterate 2 refine AL.z ?_
    apply AL.nil
    try simp only [thenS, S.put, List.nil_append, List.cons_append]
    refine ⟨_, ?_, ⟨i + 1, by omega, rfl⟩, ?_⟩
    ·rw [← hnext]; exact Less.a1
    simp [S.nat, fnd]; omega
   have e : (bl (fun p => eInto sts p k ++ eTo p k (xa.take i)) n) = (bl (fun p => eInto sts p (k + 1)) n) := bl_congr fun q _ => by rw [List.take_of_length_le zT15, eInto, hstA]
   rw [e]
   apply AW.sr
   refine AL.z ?_
   apply AL.nil
   try simp only [thenS, S.put, List.nil_append, List.cons_append]
   apply AW.seq
   refine AW.condF rfl ?_
   refine AW.exit ?_
   try simp only [thenS, inBlockS, ↓reduceIte, Nat.reduceEqDiff, List.nil_append, List.cons_append]
   apply AW.region
   iterate 2 refine AL.z ?_
   apply AL.nil
   try simp only [thenS, S.put, List.nil_append, List.cons_append]
   refine ⟨_, ?_, ⟨k + 1, by omega, rfl⟩, ?_⟩
   ·exact Less.a1
   simp [S.nat, fnd]; omega
  obtain rfl : k = n := by omega
  obtain ⟨n, rfl⟩ : ∃ n, n = k := ⟨_, rfl⟩
  have hBe : (bl (fun p => eInto sts p n) n) = (enE ⟨st, sts⟩) := by rw [hEr]
  have hCe : (bl (fun q => if q < n then stF sts q else 0) n) = (enF ⟨st, sts⟩) := by rw [hFr]; exact bl_congr fun q hq => by rw [if_pos hq]
  rw [hBe, hCe]
  apply AW.sr
  refine AL.z ?_
  apply AL.nil
  try simp only [thenS, S.put, List.nil_append, List.cons_append]
  apply AW.seq
  refine AW.condF rfl ?_
  refine AW.exit ?_
  try simp only [thenS, inBlockS, ↓reduceIte, Nat.reduceEqDiff, List.nil_append, List.cons_append]
  apply AW.seq
  refine AW.less (s' := ⟨66, [(1, .ref 1 0), (5, .own 19 1 n false), (6, .own 23 1 n false)], [(1, ⟨24, [.i st, .d (stsD sts)], false, 0⟩), (19, ⟨3, (enF ⟨st, sts⟩).map V.n, false, 1⟩), (23, ⟨102, FE.cells 1000 (enE ⟨st, sts⟩), false, 1⟩)] ++ FE.objs 1000 (enE ⟨st, sts⟩), []⟩) Less.a1 ?_
  refine AW.famFreeze (F := FE) (m := 0) (base := 1000) (L := (enE ⟨st, sts⟩)) [_, _, _] 23 rfl rfl rfl rfl (fun _ => rfl) (by intro x l hl; simp [FE] at hl; obtain ⟨_, _, _, rfl⟩ := hl; rfl) ?_ rfl (by simp [V.hasL, V.has]) rfl rfl ?_
  ·intro l hl
   have := (hEl l hl).1
   simp [FE]; omega
  refine AW.freeze 6 24 ((enE ⟨st, sts⟩).map FE.data) rfl rfl rfl (by rw [List.length_map, hEr, bl_len]) zT15 (rowsF (sz := 1) (fun _ => rfl) rfl) ?_
  refine AW.freeze 5 8 ((enF ⟨st, sts⟩).map encN) rfl rfl rfl (by rw [List.length_map, hFr, bl_len]) zT15 (rows1 rfl) ?_
  refine AW.less (s' := ⟨66, [(1, .ref 1 0), (5, .d (intsN (enF ⟨st, sts⟩))), (6, .d (.sl 1 24 ((enE ⟨st, sts⟩).map encE)))], [(1, ⟨24, [.i st, .d (stsD sts)], false, 0⟩)], []⟩) Less.a1 ?_
  apply AW.region
  iterate 2 refine AL.z ?_
  refine AL.callo (post := ?pc40) rfl (sm_callo (args := [_, _]) ?hc40 ⟨Tryz.func73, rfl, rfl, rfl, rfl⟩ rfl rfl rfl rfl ?fc40) ?_
  case hc40 => exact hfar
  case fc40 => exact (by rintro _ _ ⟨rfl, rfl⟩; first | rfl | simp [S.clean, S.put, S.newObj, S.forget, V.has, V.hasL, junkIf, setL, V.cs, hasL_i, hasL_b, hasL_s, hasL_n, hasL_rep, hasL_flat, hasL_append])
  rintro _ _ ⟨rfl, rfl⟩
  try dsimp only
  iterate 4 refine AL.z ?_
  apply AL.nil
  try simp only [nd, setL, V.cs, nz, Nat.reduceAdd, nm, ns]
  apply AW.ret
  exact ⟨[_, _], [(21, ⟨3, D.map V.n, false, 1⟩)], ⟨rfl, rfl, trivial⟩, ⟨rfl, trivial⟩, ⟨by rw [hn]; rfl, rfl⟩, by simp [tupOf, V.has, V.hasL], fun r row k h1 h2 => by
     simp only [fnd, beq_iff_eq] at h1
     split at h1
     ·cases h1; rw [hasL_n] at h2; cases h2
     cases h1⟩
end Go.Proofs.YthiknkcigcglkaaGreatDoor
