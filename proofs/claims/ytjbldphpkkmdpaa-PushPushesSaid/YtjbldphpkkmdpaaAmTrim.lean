/- reach.Trim. -/
import Derived.Test.YtjbldphpkkmdpaaAmTrimmed
import Derived.Test.YtjbldphpkkmdpaaAmAhead
import Derived.Test.YtjbldphpkkmdpaaAmBack
namespace Go.Proofs.Ytjbldphpkkmdpaa
open Go.RowKit
set_option linter.unusedSimpArgs false
set_option linter.unusedVariables false
set_option maxRecDepth 100000

theorem am_Trim0 (m : Mach) : Fn Try.prog 55 [mV m] (fun v => (machE m ≠ 0 ∧ v = .tup [.agg [.i 0, .nil], .i (machE m)]) ∨ (machE m = 0 ∧ v = .tup [mV (trimM m), .i (machE m)])) := by
 refine Fn.mach m 0 rfl fun hb hal => ?_
 by_cases h0 : machE m = 0
 ·obtain ⟨hz1, hz2, hz3, hz⟩ := machE_zero h0
  have hT : trimM m = ⟨pl (tKept m) m.start, (tKept m).map fun q => tState (tKept m) (m.states.getD q ⟨0, []⟩)⟩ := by unfold trimM; rw [if_pos h0]
  have hAl := aheadL_len h0
  have hBl := backL_len h0
  obtain ⟨A, hA⟩ : ∃ A, aheadL m = A := ⟨_, rfl⟩
  obtain ⟨B, hB⟩ : ∃ B, backL m = B := ⟨_, rfl⟩
  have hK : ∀ q a b, A[q]? = some a → B[q]? = some b → tKeep m q = (a && b) := fun q a b ha hb => tKeep_of (by rw [hA]; exact ha) (by rw [hB]; exact hb)
  have hkept : tKept m = (List.range m.states.length).filter (tKeep m) := rfl
  obtain ⟨K, hKd⟩ : ∃ K, tKeep m = K := ⟨_, rfl⟩
  obtain ⟨kept, hkd⟩ : ∃ kept, tKept m = kept := ⟨_, rfl⟩
  obtain ⟨T, hTd⟩ : ∃ T, trimM m = T := ⟨_, rfl⟩
  rw [hKd] at hK hkept
  rw [hkd] at hkept hT
  rw [hTd] at hT ⊢
  obtain ⟨st, sts⟩ := m
  simp only at hz1 hz2 hz3 hz hb hal hAl hBl hkept hT
  rw [hA] at hAl
  rw [hB] at hBl
  obtain ⟨n, hn⟩ : ∃ n, sts.length = n := ⟨_, rfl⟩
  rw [hn] at hz1 hz3 hz hb hAl hBl hkept
  refine Fn.intro (n := 118) ⟨Try.func55, rfl, rfl, rfl, rfl⟩ (by simp [V.pure, V.has, V.hasL]) (by simp) fun w0 out => ?_
  refine AW.seq ?_
  refine AW.region ?_
  refine AL.sm rfl (sm_box 1 rfl rfl rfl rfl rfl) ?_
  refine AL.sm rfl (sm_alloc (l := [.d (.p (.int .i64 0)), .d (.p (.slice none 0 0))]) 2 inf24 rfl rfl rfl rfl) ?_
  refine AL.rp rfl rfl (rp_assign rfl rfl) ?_
  refine AL.nil ?_
  try simp only [thenS, S.put, S.newObj, setL, V.cs, List.length_cons, List.length_nil, List.take_succ_cons, List.take_zero, List.drop_succ_cons, List.drop_zero, List.drop_nil, List.nil_append, List.cons_append, List.append_nil, Nat.zero_add, Nat.reduceAdd, List.map_cons, List.map_nil, List.set_cons_zero, List.set_cons_succ, enum]
  refine AW.seq ?_
  refine AW.region ?_
  refine AL.rd rfl rfl (rd_loads_ref Try.underlying24 rfl inf24 rfl rfl rfl rfl rfl rfl) ?_
  refine AL.call (post := ?pc14) rfl (sm_call (args := [_]) ?hc14 ⟨Try.func87, rfl, rfl, rfl, rfl⟩ rfl rfl rfl rfl) ?_
  case hc14 => exact Fn.eqv (am_Ahead ⟨st, sts⟩) (by rw [hA, h0])
  rintro _ rfl -
  try dsimp only
  refine AL.rp rfl rfl (rp_move rfl rfl) ?_
  refine AL.rp rfl rfl (rp_extract rfl rfl rfl) ?_
  refine AL.rp rfl rfl (rp_extract rfl rfl rfl) ?_
  refine AL.rp rfl rfl (rp_assign rfl rfl) ?_
  refine AL.rp rfl rfl (rp_assign rfl rfl) ?_
  refine AL.nil ?_
  try simp only [thenS, S.put, S.newObj, setL, V.cs, List.length_cons, List.length_nil, List.take_succ_cons, List.take_zero, List.drop_succ_cons, List.drop_zero, List.drop_nil, List.nil_append, List.cons_append, List.append_nil, Nat.zero_add, Nat.reduceAdd, List.map_cons, List.map_nil, List.set_cons_zero, List.set_cons_succ]
  refine AW.seq ?_
  refine AW.seq ?_
  refine AW.region ?_
  refine AL.rp rfl rfl (rp_move rfl rfl) ?_
  (refine AL.rp rfl rfl (rp_neqF rfl rfl rfl (by first | assumption | omega | (dsimp only; omega))) ?_)
  refine AL.nil ?_
  try simp only [thenS, S.put]
  refine AW.condF rfl ?_
  refine AW.skip ?_
  try simp only [thenS]
  refine AW.seq ?_
  refine AW.region ?_
  refine AL.rd rfl rfl (rd_loads_ref Try.underlying24 rfl inf24 rfl rfl rfl rfl rfl rfl) ?_
  refine AL.call (post := ?pc15) rfl (sm_call (args := [_]) ?hc15 ⟨Try.func88, rfl, rfl, rfl, rfl⟩ rfl rfl rfl rfl) ?_
  case hc15 => exact Fn.eqv (am_Back ⟨st, sts⟩) (by rw [hB, h0])
  rintro _ rfl -
  try dsimp only
  refine AL.rp rfl rfl (rp_move rfl rfl) ?_
  refine AL.rp rfl rfl (rp_extract rfl rfl rfl) ?_
  refine AL.rp rfl rfl (rp_extract rfl rfl rfl) ?_
  refine AL.rp rfl rfl (rp_assign rfl rfl) ?_
  refine AL.rp rfl rfl (rp_assign rfl rfl) ?_
  refine AL.nil ?_
  try simp only [thenS, S.put, S.newObj, setL, V.cs, List.length_cons, List.length_nil, List.take_succ_cons, List.take_zero, List.drop_succ_cons, List.drop_zero, List.drop_nil, List.nil_append, List.cons_append, List.append_nil, Nat.zero_add, Nat.reduceAdd, List.map_cons, List.map_nil, List.set_cons_zero, List.set_cons_succ]
  refine AW.seq ?_
  refine AW.region ?_
  refine AL.rp rfl rfl (rp_field_ref Try.underlying24 rfl rfl rfl inf22 (by decide) rfl) ?_
  refine AL.rd rfl rfl (rd_load_ref Try.underlying22 rfl rfl rfl rfl rfl rfl) ?_
  refine AL.rp rfl rfl (rp_len_map Try.underlying22 rfl rfl (by assumption)) ?_
  refine AL.sm rfl (sm_make_map 34 V.i (0) Try.underlying40 inf3 rfl rfl rfl rfl rfl (by omega) (by decide) rfl rfl) ?_
  refine AL.rp rfl rfl (rp_assign rfl rfl) ?_
  refine AL.nil ?_
  try simp only [thenS, S.put, S.newObj, setL, V.cs, List.length_cons, List.length_nil, List.take_succ_cons, List.take_zero, List.drop_succ_cons, List.drop_zero, List.drop_nil, List.nil_append, List.cons_append, List.append_nil, Nat.zero_add, Nat.reduceAdd, List.map_cons, List.map_nil, List.set_cons_zero, List.set_cons_succ]
  refine AW.seq ?_
  refine AW.region ?_
  refine AL.rp rfl rfl (rp_assign rfl rfl) ?_
  refine AL.nil ?_
  try simp only [thenS, S.put]
  refine AW.seq ?_
  refine AW.seq ?_
  refine AW.region ?_
  refine AL.rp rfl rfl (rp_field_ref Try.underlying24 rfl rfl rfl inf22 (by decide) rfl) ?_
  refine AL.rd rfl rfl (rd_load_ref Try.underlying22 rfl rfl rfl rfl rfl rfl) ?_
  refine AL.rp rfl rfl (rp_len_map Try.underlying22 rfl rfl (by assumption)) ?_
  refine AL.rp rfl rfl (rp_move rfl rfl) ?_
  refine AL.nil ?_
  try simp only [thenS, S.put]
  refine AW.block ?_
  have hpl : ∀ q, q < n → pl kept (q : Int) = if K q then (((List.range q).filter K).length : Int) else -1 := fun q hq => by rw [hkept]; exact pl_filter hq
  refine AW.loop (fun s' => ∃ (k : Nat) (N : List Int), k ≤ n ∧ N.length = n ∧ (∀ q, q < k → N[q]? = some (pl kept q)) ∧ s' = ⟨118, [(1, .ref 1 0), (2, .ref 2 0), (4, .d (boolsD A)), (6, .d (boolsD B)), (8, .own 34 1 n false), (9, .i ((List.range k).filter K).length), (37, .i n), (38, .i k)], [(1, ⟨24, [.i st, .d (stsD sts)], false, 0⟩), (2, ⟨24, [.i 0, .nil], false, 0⟩), (34, ⟨3, N.map V.i, false, 1⟩)], []⟩) (fun s' => n - s'.nat 38) ⟨_, ?_, 0, List.replicate n 0, by omega, by simp, (fun q h => absurd h (by omega)), rfl⟩ ?_
  ·exact (Less.of rfl (by repeat (first | exact trivial | refine ⟨⟨_, rfl, Wk.refl _⟩, ?_⟩ | refine ⟨⟨_, rfl, Wk.nil _ _⟩, ?_⟩ | refine ⟨⟨_, rfl, Wk.junk _⟩, ?_⟩)) (by repeat (first | exact trivial | refine ⟨rfl, ?_⟩)) rfl)
  rintro s' ⟨k, N, hk, hN, hNq, rfl⟩
  have hlk := filter_range_len K k
  by_cases hlt : k < n
  ·obtain ⟨a, ha⟩ := get_lt hAl hlt
   obtain ⟨b, hb'⟩ := get_lt hBl hlt
   have hKk := hK k a b ha hb'
   have hplk := hpl k hlt
   have hsk := filter_range_succ K k
   have hkN : k < N.length := by omega
   have hkN2 : k < (N.set k (-1)).length := by simpa using hkN
   have hstep : ∀ v : Int, v = pl kept k → ∀ q, q < k + 1 → (N.set k v)[q]? = some (pl kept q) := by
    intro v hv q hq
    rw [List.getElem?_set]
    by_cases e : k = q
    ·subst e; simp [hkN, hv]
    ·rw [if_neg e]; exact hNq q (by omega)
   have hstep2 : ∀ v : Int, v = pl kept k → ∀ q, q < k + 1 → ((N.set k (-1)).set k v)[q]? = some (pl kept q) := by
    intro v hv q hq
    rw [List.set_set]
    exact hstep v hv q hq
   cases a with
   | true =>
    cases b with
    | true =>
     simp only [hKk, Bool.and_self, if_true] at hsk hplk
     refine AW.seq ?_
     refine AW.region ?_
     (refine AL.rp rfl rfl (rp_lssT rfl rfl rfl (by first | assumption | omega | (dsimp only; omega))) ?_)
     refine AL.nil ?_
     try simp only [thenS, S.put]
     refine AW.seq ?_
     refine AW.condT rfl ?_
     refine AW.skip ?_
     try simp only [thenS]
     refine AW.seq ?_
     refine AW.block ?_
     refine AW.seq ?_
     refine AW.region ?_
     refine AL.rp rfl rfl (rp_move rfl rfl) ?_
     refine AL.rp rfl rfl (rp_assign rfl rfl) ?_
     refine AL.nil ?_
     try simp only [thenS, S.put]
     refine AW.seq ?_
     refine AW.region ?_
     refine AL.rp rfl rfl (rp_move rfl rfl) ?_
     refine AL.rp rfl rfl (rp_move rfl rfl) ?_
     refine AL.rp rfl rfl (rp_index_own Try.underlying40 inf3 rfl rfl rfl rfl (by first | assumption | omega)) ?_
     refine AL.st rfl (st_store_map2 inf3 rfl rfl rfl rfl rfl rfl rfl rfl (by first | assumption | omega)) ?_
     refine AL.nil ?_
     try simp only [thenS, S.put, S.newObj, setL, V.cs, List.length_cons, List.length_nil, List.take_succ_cons, List.take_zero, List.drop_succ_cons, List.drop_zero, List.drop_nil, List.nil_append, List.cons_append, List.append_nil, Nat.zero_add, Nat.reduceAdd, List.map_cons, List.map_nil, List.set_cons_zero, List.set_cons_succ]
     refine AW.seq ?_
     refine AW.region ?_
     refine AL.rp rfl rfl (rp_move rfl rfl) ?_
     refine AL.rp rfl rfl (rp_move rfl rfl) ?_
     refine AL.rp rfl rfl (rp_index_map Try.underlying107 inf4 rfl rfl rfl rfl (by assumption)) ?_
     refine AL.rd rfl rfl (rd_load_ad Try.underlying4 rfl rfl rfl rfl) ?_
     refine AL.rp rfl rfl (rp_move rfl rfl) ?_
     refine AL.rpy rfl rfl rfl (rp_move rfl rfl) ?_
     refine AL.rpy rfl rfl rfl (rp_move rfl rfl) ?_
     refine AL.rpy rfl rfl rfl (rp_index_map Try.underlying107 inf4 rfl rfl rfl rfl (by assumption)) ?_
     refine AL.rdy rfl rfl rfl (rd_load_ad Try.underlying4 rfl rfl rfl rfl) ?_
     refine AL.rp rfl rfl (rp_pick rfl rfl rfl) ?_
     refine AL.nil ?_
     try simp only [thenS, S.put]
     refine AW.condT rfl ?_
     refine AW.seq ?_
     refine AW.region ?_
     refine AL.rp rfl rfl (rp_move rfl rfl) ?_
     refine AL.rp rfl rfl (rp_move rfl rfl) ?_
     refine AL.rp rfl rfl (rp_move rfl rfl) ?_
     refine AL.rp rfl rfl (rp_index_own Try.underlying40 inf3 rfl rfl rfl rfl (by first | assumption | omega)) ?_
     refine AL.st rfl (st_store_map2 inf3 rfl rfl rfl rfl rfl rfl rfl rfl (by first | assumption | omega)) ?_
     refine AL.nil ?_
     try simp only [thenS, S.put, S.newObj, setL, V.cs, List.length_cons, List.length_nil, List.take_succ_cons, List.take_zero, List.drop_succ_cons, List.drop_zero, List.drop_nil, List.nil_append, List.cons_append, List.append_nil, Nat.zero_add, Nat.reduceAdd, List.map_cons, List.map_nil, List.set_cons_zero, List.set_cons_succ]
     refine AW.region ?_
     refine AL.rp rfl rfl (rp_move rfl rfl) ?_
     refine AL.rp rfl rfl (rp_add rfl rfl rfl (by first | omega | (dsimp only; omega))) ?_
     refine AL.rp rfl rfl (rp_assign rfl rfl) ?_
     refine AL.nil ?_
     try simp only [thenS, S.put]
     refine AW.region ?_
     refine AL.rp rfl rfl (rp_add rfl rfl rfl (by first | omega | (dsimp only; omega))) ?_
     refine AL.rp rfl rfl (rp_move rfl rfl) ?_
     refine AL.nil ?_
     try simp only [thenS, S.put]
     refine ⟨_, ?_, ⟨k + 1, _, by omega, by simpa using hN, hstep2 _ hplk.symm, rfl⟩, ?_⟩
     ·rw [hsk]
      simp only [List.length_append, List.length_cons, List.length_nil, Nat.zero_add]
      exact (Less.of rfl (by repeat (first | exact trivial | refine ⟨⟨_, rfl, Wk.refl _⟩, ?_⟩ | refine ⟨⟨_, rfl, Wk.nil _ _⟩, ?_⟩ | refine ⟨⟨_, rfl, Wk.junk _⟩, ?_⟩)) (by repeat (first | exact trivial | refine ⟨rfl, ?_⟩)) rfl)
     ·simp [S.nat, fnd]; omega
    | false =>
     simp only [hKk, Bool.and_false, Bool.false_eq_true, if_false, List.append_nil] at hsk hplk
     refine AW.seq ?_
     refine AW.region ?_
     (refine AL.rp rfl rfl (rp_lssT rfl rfl rfl (by first | assumption | omega | (dsimp only; omega))) ?_)
     refine AL.nil ?_
     try simp only [thenS, S.put]
     refine AW.seq ?_
     refine AW.condT rfl ?_
     refine AW.skip ?_
     try simp only [thenS]
     refine AW.seq ?_
     refine AW.block ?_
     refine AW.seq ?_
     refine AW.region ?_
     refine AL.rp rfl rfl (rp_move rfl rfl) ?_
     refine AL.rp rfl rfl (rp_assign rfl rfl) ?_
     refine AL.nil ?_
     try simp only [thenS, S.put]
     refine AW.seq ?_
     refine AW.region ?_
     refine AL.rp rfl rfl (rp_move rfl rfl) ?_
     refine AL.rp rfl rfl (rp_move rfl rfl) ?_
     refine AL.rp rfl rfl (rp_index_own Try.underlying40 inf3 rfl rfl rfl rfl (by first | assumption | omega)) ?_
     refine AL.st rfl (st_store_map2 inf3 rfl rfl rfl rfl rfl rfl rfl rfl (by first | assumption | omega)) ?_
     refine AL.nil ?_
     try simp only [thenS, S.put, S.newObj, setL, V.cs, List.length_cons, List.length_nil, List.take_succ_cons, List.take_zero, List.drop_succ_cons, List.drop_zero, List.drop_nil, List.nil_append, List.cons_append, List.append_nil, Nat.zero_add, Nat.reduceAdd, List.map_cons, List.map_nil, List.set_cons_zero, List.set_cons_succ]
     refine AW.seq ?_
     refine AW.region ?_
     refine AL.rp rfl rfl (rp_move rfl rfl) ?_
     refine AL.rp rfl rfl (rp_move rfl rfl) ?_
     refine AL.rp rfl rfl (rp_index_map Try.underlying107 inf4 rfl rfl rfl rfl (by assumption)) ?_
     refine AL.rd rfl rfl (rd_load_ad Try.underlying4 rfl rfl rfl rfl) ?_
     refine AL.rp rfl rfl (rp_move rfl rfl) ?_
     refine AL.rpy rfl rfl rfl (rp_move rfl rfl) ?_
     refine AL.rpy rfl rfl rfl (rp_move rfl rfl) ?_
     refine AL.rpy rfl rfl rfl (rp_index_map Try.underlying107 inf4 rfl rfl rfl rfl (by assumption)) ?_
     refine AL.rdy rfl rfl rfl (rd_load_ad Try.underlying4 rfl rfl rfl rfl) ?_
     refine AL.rp rfl rfl (rp_pick rfl rfl rfl) ?_
     refine AL.nil ?_
     try simp only [thenS, S.put]
     refine AW.condF rfl ?_
     refine AW.skip ?_
     try simp only [thenS]
     refine AW.region ?_
     refine AL.rp rfl rfl (rp_add rfl rfl rfl (by first | omega | (dsimp only; omega))) ?_
     refine AL.rp rfl rfl (rp_move rfl rfl) ?_
     refine AL.nil ?_
     try simp only [thenS, S.put]
     refine ⟨_, ?_, ⟨k + 1, _, by omega, by simpa using hN, hstep _ hplk.symm, rfl⟩, ?_⟩
     ·rw [hsk]
      exact (Less.of rfl (by repeat (first | exact trivial | refine ⟨⟨_, rfl, Wk.refl _⟩, ?_⟩ | refine ⟨⟨_, rfl, Wk.nil _ _⟩, ?_⟩ | refine ⟨⟨_, rfl, Wk.junk _⟩, ?_⟩)) (by repeat (first | exact trivial | refine ⟨rfl, ?_⟩)) rfl)
     ·simp [S.nat, fnd]; omega
   | false =>
    simp only [hKk, Bool.false_and, Bool.false_eq_true, if_false, List.append_nil] at hsk hplk
    refine AW.seq ?_
    refine AW.region ?_
    (refine AL.rp rfl rfl (rp_lssT rfl rfl rfl (by first | assumption | omega | (dsimp only; omega))) ?_)
    refine AL.nil ?_
    try simp only [thenS, S.put]
    refine AW.seq ?_
    refine AW.condT rfl ?_
    refine AW.skip ?_
    try simp only [thenS]
    refine AW.seq ?_
    refine AW.block ?_
    refine AW.seq ?_
    refine AW.region ?_
    refine AL.rp rfl rfl (rp_move rfl rfl) ?_
    refine AL.rp rfl rfl (rp_assign rfl rfl) ?_
    refine AL.nil ?_
    try simp only [thenS, S.put]
    refine AW.seq ?_
    refine AW.region ?_
    refine AL.rp rfl rfl (rp_move rfl rfl) ?_
    refine AL.rp rfl rfl (rp_move rfl rfl) ?_
    refine AL.rp rfl rfl (rp_index_own Try.underlying40 inf3 rfl rfl rfl rfl (by first | assumption | omega)) ?_
    refine AL.st rfl (st_store_map2 inf3 rfl rfl rfl rfl rfl rfl rfl rfl (by first | assumption | omega)) ?_
    refine AL.nil ?_
    try simp only [thenS, S.put, S.newObj, setL, V.cs, List.length_cons, List.length_nil, List.take_succ_cons, List.take_zero, List.drop_succ_cons, List.drop_zero, List.drop_nil, List.nil_append, List.cons_append, List.append_nil, Nat.zero_add, Nat.reduceAdd, List.map_cons, List.map_nil, List.set_cons_zero, List.set_cons_succ]
    refine AW.seq ?_
    refine AW.region ?_
    refine AL.rp rfl rfl (rp_move rfl rfl) ?_
    refine AL.rp rfl rfl (rp_move rfl rfl) ?_
    refine AL.rp rfl rfl (rp_index_map Try.underlying107 inf4 rfl rfl rfl rfl (by assumption)) ?_
    refine AL.rd rfl rfl (rd_load_ad Try.underlying4 rfl rfl rfl rfl) ?_
    refine AL.rp rfl rfl (rp_move rfl rfl) ?_
    refine AL.no rfl rfl rfl rfl ?_
    refine AL.no rfl rfl rfl rfl ?_
    refine AL.no rfl rfl rfl rfl ?_
    refine AL.no rfl rfl rfl rfl ?_
    refine AL.rp rfl rfl (rp_pick rfl rfl rfl) ?_
    refine AL.nil ?_
    try simp only [thenS, S.put]
    refine AW.condF rfl ?_
    refine AW.skip ?_
    try simp only [thenS]
    refine AW.region ?_
    refine AL.rp rfl rfl (rp_add rfl rfl rfl (by first | omega | (dsimp only; omega))) ?_
    refine AL.rp rfl rfl (rp_move rfl rfl) ?_
    refine AL.nil ?_
    try simp only [thenS, S.put]
    refine ⟨_, ?_, ⟨k + 1, _, by omega, by simpa using hN, hstep _ hplk.symm, rfl⟩, ?_⟩
    ·rw [hsk]
     exact (Less.of rfl (by repeat (first | exact trivial | refine ⟨⟨_, rfl, Wk.refl _⟩, ?_⟩ | refine ⟨⟨_, rfl, Wk.nil _ _⟩, ?_⟩ | refine ⟨⟨_, rfl, Wk.junk _⟩, ?_⟩)) (by repeat (first | exact trivial | refine ⟨rfl, ?_⟩)) rfl)
    ·simp [S.nat, fnd]; omega
  ·obtain rfl : k = n := by omega
   rw [← hkept] at hlk
   obtain ⟨c, hc⟩ : ∃ c, kept.length = c := ⟨_, rfl⟩
   rw [hc] at hlk
   refine AW.seq ?_
   refine AW.region ?_
   (refine AL.rp rfl rfl (rp_lssF rfl rfl rfl (by first | assumption | omega | (dsimp only; omega))) ?_)
   refine AL.nil ?_
   try simp only [thenS, S.put]
   refine AW.seq ?_
   refine AW.condF rfl ?_
   refine AW.exit ?_
   try simp only [thenS, inBlockS, ↓reduceIte, Nat.reduceEqDiff]
   refine AW.seq ?_
   refine AW.freeze 8 8 (N.map fun x => [.p (.int .i64 x)]) rfl rfl rfl (by rw [List.length_map, hN]) (by omega) (rows1 rfl) ?_
   refine AW.less (s' := ⟨118, [(1, .ref 1 0), (2, .ref 2 0), (8, .d (intsD N))], [(1, ⟨24, [.i st, .d (stsD sts)], false, 0⟩), (2, ⟨24, [.i 0, .nil], false, 0⟩)], []⟩) (Less.of rfl (by repeat (first | exact trivial | refine ⟨⟨_, rfl, Wk.refl _⟩, ?_⟩ | refine ⟨⟨_, rfl, Wk.nil _ _⟩, ?_⟩ | refine ⟨⟨_, rfl, Wk.junk _⟩, ?_⟩)) (by repeat (first | exact trivial | refine ⟨rfl, ?_⟩)) rfl) ?_
   refine AW.region ?_
   refine AL.rp rfl rfl (rp_build (vs := [(0, _)]) (zs := [.d (.p (.int .i64 0)), .d (.p (.slice none 0 0))]) pl24 inf24 rfl rfl rfl rfl) ?_
   refine AL.sm rfl (sm_alloc (l := [.d (.p (.int .i64 0)), .d (.p (.slice none 0 0))]) 11 inf24 rfl rfl rfl rfl) ?_
   refine AL.st rfl (st_store_any inf24 rfl rfl rfl rfl rfl rfl rfl rfl (by first | decide | (simp; done) | (simp; omega)) rfl) ?_
   refine AL.nil ?_
   try simp only [thenS, S.put, S.newObj, setL, V.cs, List.length_cons, List.length_nil, List.take_succ_cons, List.take_zero, List.drop_succ_cons, List.drop_zero, List.drop_nil, List.nil_append, List.cons_append, List.append_nil, Nat.zero_add, Nat.reduceAdd, List.map_cons, List.map_nil, List.set_cons_zero, List.set_cons_succ]
   refine AW.seqc (fun s' => s' = ⟨118, [(1, .ref 1 0), (2, .ref 2 0), (8, .d (intsD N)), (11, .ref 11 0)], [(1, ⟨24, [.i st, .d (stsD sts)], false, 0⟩), (2, ⟨24, [.i 0, .nil], false, 0⟩), (11, ⟨24, [.i (pl kept st), .nil], false, 0⟩)], []⟩) ?_ ?_
   ·skip
    by_cases hs0 : 0 ≤ st
    ·obtain ⟨p, rfl⟩ : ∃ p : Nat, st = p := ⟨st.toNat, by omega⟩
     have hNp := hNq p (by omega)
     refine AW.seq ?_
     refine AW.region ?_
     refine AL.rp rfl rfl (rp_field_ref Try.underlying24 rfl rfl rfl inf3 (by decide) rfl) ?_
     refine AL.rd rfl rfl (rd_load_ref Try.underlying3 rfl rfl rfl rfl rfl rfl) ?_
     (refine AL.rp rfl rfl (rp_geqT rfl rfl rfl (by first | assumption | omega | (dsimp only; omega))) ?_)
     refine AL.nil ?_
     try simp only [thenS, S.put]
     refine AW.condT rfl ?_
     refine AW.region ?_
     refine AL.rp rfl rfl (rp_move rfl rfl) ?_
     refine AL.rp rfl rfl (rp_field_ref Try.underlying24 rfl rfl rfl inf3 (by decide) rfl) ?_
     refine AL.rd rfl rfl (rd_load_ref Try.underlying3 rfl rfl rfl rfl rfl rfl) ?_
     refine AL.rp rfl rfl (rp_index_map Try.underlying40 inf3 rfl rfl rfl rfl (by assumption)) ?_
     refine AL.rd rfl rfl (rd_load_ad Try.underlying3 rfl rfl rfl rfl) ?_
     refine AL.rp rfl rfl (rp_field_ref Try.underlying24 rfl rfl rfl inf3 (by decide) rfl) ?_
     (refine AL.st rfl (st_store inf3 rfl rfl rfl rfl rfl rfl rfl (by first | decide | (simp; done)) rfl) ?_)
     refine AL.nil ?_
     try simp only [thenS, S.put, S.newObj, setL, V.cs, List.length_cons, List.length_nil, List.take_succ_cons, List.take_zero, List.drop_succ_cons, List.drop_zero, List.drop_nil, List.nil_append, List.cons_append, List.append_nil, Nat.zero_add, Nat.reduceAdd, List.map_cons, List.map_nil, List.set_cons_zero, List.set_cons_succ]
     refine ⟨_, ?_, rfl⟩
     exact (Less.of rfl (by repeat (first | exact trivial | refine ⟨⟨_, rfl, Wk.refl _⟩, ?_⟩ | refine ⟨⟨_, rfl, Wk.nil _ _⟩, ?_⟩ | refine ⟨⟨_, rfl, Wk.junk _⟩, ?_⟩)) (by repeat (first | exact trivial | refine ⟨rfl, ?_⟩)) rfl)
    ·have hpn : pl kept st = -1 := pl_neg _ (by omega)
     refine AW.seq ?_
     refine AW.region ?_
     refine AL.rp rfl rfl (rp_field_ref Try.underlying24 rfl rfl rfl inf3 (by decide) rfl) ?_
     refine AL.rd rfl rfl (rd_load_ref Try.underlying3 rfl rfl rfl rfl rfl rfl) ?_
     (refine AL.rp rfl rfl (rp_geqF rfl rfl rfl (by first | assumption | omega | (dsimp only; omega))) ?_)
     refine AL.nil ?_
     try simp only [thenS, S.put]
     refine AW.condF rfl ?_
     refine AW.skip ?_
     try simp only [thenS]
     refine ⟨_, ?_, rfl⟩
     rw [hpn]
     exact (Less.of rfl (by repeat (first | exact trivial | refine ⟨⟨_, rfl, Wk.refl _⟩, ?_⟩ | refine ⟨⟨_, rfl, Wk.nil _ _⟩, ?_⟩ | refine ⟨⟨_, rfl, Wk.junk _⟩, ?_⟩)) (by repeat (first | exact trivial | refine ⟨rfl, ?_⟩)) rfl)
   ·rintro s' rfl
    obtain ⟨n, rfl⟩ : ∃ n, n = k := ⟨_, rfl⟩
    refine AW.adoptH 11 1 101 2 52 rfl rfl rfl (by simp [S.clean, V.has, V.hasL, V.cs, setL]) ?_
    refine AW.seq ?_
    refine AW.seq ?_
    refine AW.region ?_
    refine AL.rp rfl rfl (rp_field_ref Try.underlying24 rfl rfl rfl inf22 (by decide) rfl) ?_
    refine AL.rd rfl rfl (rd_load_ref Try.underlying22 rfl rfl rfl rfl rfl rfl) ?_
    refine AL.rp rfl rfl (rp_len_map Try.underlying22 rfl rfl (by assumption)) ?_
    refine AL.rp rfl rfl (rp_move rfl rfl) ?_
    refine AL.nil ?_
    try simp only [thenS, S.put]
    refine AW.block ?_
    refine AW.loop (fun s' => ∃ k : Nat, k ≤ n ∧ s' = ⟨118, [(1, .ref 1 0), (2, .ref 2 0), (8, .d (intsD N)), (11, .ref 11 0), (72, .d (stsD sts)), (73, .i n), (74, .i k)], [(1, ⟨24, [.i st, .d (stsD sts)], false, 0⟩), (2, ⟨24, [.i 0, .nil], false, 0⟩), (11, ⟨24, [.i (pl kept st), .own 101 2 ((List.range k).filter K).length (decide (((List.range k).filter K).length = 0))], false, 0⟩), (101, ⟨52, (((List.range k).filter K).map fun q => tState kept (sts.getD q ⟨0, []⟩)).flatMap stV2, decide (((List.range k).filter K).length = 0), 2⟩)], []⟩) (fun s' => n - s'.nat 74) ⟨_, ?_, 0, by omega, rfl⟩ ?_
    ·exact (Less.of rfl (by repeat (first | exact trivial | refine ⟨⟨_, rfl, Wk.refl _⟩, ?_⟩ | refine ⟨⟨_, rfl, Wk.nil _ _⟩, ?_⟩ | refine ⟨⟨_, rfl, Wk.junk _⟩, ?_⟩)) (by repeat (first | exact trivial | refine ⟨rfl, ?_⟩)) rfl)
    rintro s' ⟨k, hk, rfl⟩
    have hlk := filter_range_len K k
    by_cases hlt : k < n
    ·obtain ⟨x, hx⟩ := get_lt hn hlt
     have hNk := hNq k hlt
     have hplk := hpl k hlt
     have hsk := filter_range_succ K k
     by_cases hKk : K k = true
     ·rw [if_pos hKk] at hplk hsk
      have hpos : ¬ pl kept k < 0 := by rw [hplk]; omega
      obtain ⟨la, hla⟩ : ∃ n, x.arcs.length = n := ⟨_, rfl⟩
      have hla' := Nat.le_trans (arcN_mem sts x (List.mem_of_getElem? hx)) hz2
      rw [hla] at hla'
      have hxd : sts.getD k ⟨0, []⟩ = x := by simp [List.getD_eq_getElem?_getD, hx]
      have hfl : ((((List.range k).filter K).map fun q => tState kept (sts.getD q ⟨0, []⟩)).flatMap stV2).length = ((List.range k).filter K).length * 2 := by rw [flat_len (sz := 2) (fun _ => rfl), List.length_map]
      refine AW.seq ?_
      refine AW.region ?_
      (refine AL.rp rfl rfl (rp_lssT rfl rfl rfl (by first | assumption | omega | (dsimp only; omega))) ?_)
      refine AL.nil ?_
      try simp only [thenS, S.put]
      refine AW.seq ?_
      refine AW.condT rfl ?_
      refine AW.skip ?_
      try simp only [thenS]
      refine AW.seq ?_
      refine AW.block ?_
      refine AW.seq ?_
      refine AW.region ?_
      refine AL.rp rfl rfl (rp_move rfl rfl) ?_
      refine AL.rp rfl rfl (rp_index_map Try.underlying22 inf52 rfl rfl rfl rfl (by assumption)) ?_
      refine AL.rd rfl rfl (rd_loads_ad Try.underlying52 rfl inf52 rfl rfl rfl rfl) ?_
      refine AL.sm rfl (sm_alloc (l := [.d (.p (.int .i64 0)), .d (.p (.slice none 0 0))]) 13 inf52 rfl (by simp [S.clean, S.put, S.newObj, S.forget, V.has, V.hasL, junkIf, setL, V.cs, hasL_i, hasL_b, hasL_s, hasL_n, hasL_rep, hasL_flat, hasL_append, -List.map_set]) rfl rfl) ?_
      refine AL.rp rfl rfl (rp_assign rfl rfl) ?_
      refine AL.st rfl (st_store_any inf52 rfl rfl rfl rfl rfl rfl rfl rfl (by first | decide | (simp; done) | (simp; omega)) rfl) ?_
      refine AL.nil ?_
      try simp only [thenS, S.put, S.newObj, setL, V.cs, List.length_cons, List.length_nil, List.take_succ_cons, List.take_zero, List.drop_succ_cons, List.drop_zero, List.drop_nil, List.nil_append, List.cons_append, List.append_nil, Nat.zero_add, Nat.reduceAdd, List.map_cons, List.map_nil, List.set_cons_zero, List.set_cons_succ]
      refine AW.seq ?_
      refine AW.seq ?_
      refine AW.region ?_
      refine AL.rp rfl rfl (rp_move rfl rfl) ?_
      refine AL.rp rfl rfl (rp_move rfl rfl) ?_
      refine AL.rp rfl rfl (rp_index_map Try.underlying40 inf3 rfl rfl rfl rfl (by assumption)) ?_
      refine AL.rd rfl rfl (rd_load_ad Try.underlying3 rfl rfl rfl rfl) ?_
      (refine AL.rp rfl rfl (rp_lssF rfl rfl rfl (by first | assumption | omega | (dsimp only; omega))) ?_)
      refine AL.nil ?_
      try simp only [thenS, S.put]
      refine AW.condF rfl ?_
      refine AW.skip ?_
      try simp only [thenS]
      refine AW.seq ?_
      refine AW.region ?_
      refine AL.rp rfl rfl (rp_field_ref Try.underlying52 rfl rfl rfl inf3 (by decide) rfl) ?_
      refine AL.rd rfl rfl (rd_load_ref Try.underlying3 rfl rfl rfl rfl rfl rfl) ?_
      refine AL.rp rfl rfl (rp_build (vs := [(0, _)]) (zs := [.d (.p (.int .i64 0)), .d (.p (.slice none 0 0))]) pl52 inf52 rfl rfl rfl rfl) ?_
      refine AL.sm rfl (sm_alloc (l := [.d (.p (.int .i64 0)), .d (.p (.slice none 0 0))]) 14 inf52 rfl (by simp [S.clean, S.put, S.newObj, S.forget, V.has, V.hasL, junkIf, setL, V.cs, hasL_i, hasL_b, hasL_s, hasL_n, hasL_rep, hasL_flat, hasL_append, -List.map_set]) rfl rfl) ?_
      refine AL.st rfl (st_store_any inf52 rfl rfl rfl rfl rfl rfl rfl rfl (by first | decide | (simp; done) | (simp; omega)) rfl) ?_
      refine AL.nil ?_
      try simp only [thenS, S.put, S.newObj, setL, V.cs, List.length_cons, List.length_nil, List.take_succ_cons, List.take_zero, List.drop_succ_cons, List.drop_zero, List.drop_nil, List.nil_append, List.cons_append, List.append_nil, Nat.zero_add, Nat.reduceAdd, List.map_cons, List.map_nil, List.set_cons_zero, List.set_cons_succ]
      refine AW.seq ?_
      refine AW.seq ?_
      refine AW.adoptH 14 1 102 4 56 rfl rfl rfl (by simp [S.clean, V.has, V.hasL, V.cs, setL]) ?_
      refine AW.region ?_
      refine AL.rp rfl rfl (rp_field_ref Try.underlying52 rfl rfl rfl inf50 (by decide) rfl) ?_
      refine AL.rd rfl rfl (rd_load_ref Try.underlying50 rfl rfl rfl rfl rfl rfl) ?_
      refine AL.rp rfl rfl (rp_len_map Try.underlying50 rfl rfl (by assumption)) ?_
      refine AL.rp rfl rfl (rp_move rfl rfl) ?_
      refine AL.nil ?_
      try simp only [thenS, S.put]
      refine AW.block ?_
      refine AW.loop (fun s' => ∃ i : Nat, i ≤ la ∧ s' = ⟨118, [(1, .ref 1 0), (2, .ref 2 0), (8, .d (intsD N)), (11, .ref 11 0), (14, .ref 14 0), (72, .d (stsD sts)), (73, .i n), (74, .i k), (88, .d (arsD x.arcs)), (89, .i la), (90, .i i)], [(1, ⟨24, [.i st, .d (stsD sts)], false, 0⟩), (2, ⟨24, [.i 0, .nil], false, 0⟩), (11, ⟨24, [.i (pl kept st), .own 101 2 ((List.range k).filter K).length (decide (((List.range k).filter K).length = 0))], false, 0⟩), (101, ⟨52, (((List.range k).filter K).map fun q => tState kept (sts.getD q ⟨0, []⟩)).flatMap stV2, decide (((List.range k).filter K).length = 0), 2⟩), (14, ⟨52, [.i x.fin, .own 102 4 ((x.arcs.take i).filterMap (tArc kept)).length (decide (((x.arcs.take i).filterMap (tArc kept)).length = 0))], false, 0⟩), (102, ⟨56, ((x.arcs.take i).filterMap (tArc kept)).flatMap arV2, decide (((x.arcs.take i).filterMap (tArc kept)).length = 0), 4⟩)], []⟩) (fun s' => la - s'.nat 90) ⟨_, ?_, 0, by omega, rfl⟩ ?_
      ·exact (Less.of rfl (by repeat (first | exact trivial | refine ⟨⟨_, rfl, Wk.refl _⟩, ?_⟩ | refine ⟨⟨_, rfl, Wk.nil _ _⟩, ?_⟩ | refine ⟨⟨_, rfl, Wk.junk _⟩, ?_⟩)) (by repeat (first | exact trivial | refine ⟨rfl, ?_⟩)) rfl)
      rintro s' ⟨i, hi, rfl⟩
      have hfm : ((x.arcs.take i).filterMap (tArc kept)).length ≤ la := by
       have := List.length_filterMap_le (tArc kept) (x.arcs.take i)
       rw [List.length_take] at this
       omega
      have hfl2 : (((x.arcs.take i).filterMap (tArc kept)).flatMap arV2).length = ((x.arcs.take i).filterMap (tArc kept)).length * 4 := flat_len (sz := 4) (fun _ => rfl)
      by_cases hil : i < la
      ·obtain ⟨y, hy⟩ := get_lt hla hil
       have hyt := (hz x (List.mem_of_getElem? hx)).2 y (List.mem_of_getElem? hy)
       have hsn2 := filterMap_snoc (tArc kept) hy
       obtain ⟨yi, yo, yw, yt⟩ := y
       simp only [arOk, decide_eq_true_eq] at hyt
       obtain ⟨p, rfl⟩ : ∃ p : Nat, yt = p := ⟨yt.toNat, by omega⟩
       have hNp := hNq p (by omega)
       by_cases hp : 0 ≤ pl kept p
       ·have hty : tArc kept ⟨yi, yo, yw, p⟩ = some ⟨yi, yo, yw, pl kept p⟩ := by unfold tArc; rw [if_pos hp]
        rw [hty, Option.toList] at hsn2
        refine AW.seq ?_
        refine AW.region ?_
        (refine AL.rp rfl rfl (rp_lssT rfl rfl rfl (by first | assumption | omega | (dsimp only; omega))) ?_)
        refine AL.nil ?_
        try simp only [thenS, S.put]
        refine AW.seq ?_
        refine AW.condT rfl ?_
        refine AW.skip ?_
        try simp only [thenS]
        refine AW.seq ?_
        refine AW.block ?_
        refine AW.seq ?_
        refine AW.region ?_
        refine AL.rp rfl rfl (rp_index_map Try.underlying50 inf56 rfl rfl rfl rfl (by assumption)) ?_
        refine AL.rd rfl rfl (rd_loads_ad Try.underlying56 rfl inf56 rfl rfl rfl rfl) ?_
        refine AL.sm rfl (sm_alloc (l := [.d (.p (.int .i64 0)), .d (.p (.int .i64 0)), .d (.p (.int .i64 0)), .d (.p (.int .i64 0))]) 16 inf56 rfl (by simp [S.clean, S.put, S.newObj, S.forget, V.has, V.hasL, junkIf, setL, V.cs, hasL_i, hasL_b, hasL_s, hasL_n, hasL_rep, hasL_flat, hasL_append, -List.map_set]) rfl rfl) ?_
        refine AL.st rfl (st_store_any inf56 rfl rfl rfl rfl rfl rfl rfl rfl (by first | decide | (simp; done) | (simp; omega)) rfl) ?_
        refine AL.nil ?_
        try simp only [thenS, S.put, S.newObj, setL, V.cs, List.length_cons, List.length_nil, List.take_succ_cons, List.take_zero, List.drop_succ_cons, List.drop_zero, List.drop_nil, List.nil_append, List.cons_append, List.append_nil, Nat.zero_add, Nat.reduceAdd, List.map_cons, List.map_nil, List.set_cons_zero, List.set_cons_succ]
        refine AW.seq ?_
        refine AW.region ?_
        refine AL.rp rfl rfl (rp_move rfl rfl) ?_
        refine AL.rp rfl rfl (rp_field_ref Try.underlying56 rfl rfl rfl inf3 (by decide) rfl) ?_
        refine AL.rd rfl rfl (rd_load_ref Try.underlying3 rfl rfl rfl rfl rfl rfl) ?_
        refine AL.rp rfl rfl (rp_index_map Try.underlying40 inf3 rfl rfl rfl rfl (by assumption)) ?_
        refine AL.rd rfl rfl (rd_load_ad Try.underlying3 rfl rfl rfl rfl) ?_
        refine AL.rp rfl rfl (rp_field_ref Try.underlying56 rfl rfl rfl inf3 (by decide) rfl) ?_
        (refine AL.st rfl (st_store inf3 rfl rfl rfl rfl rfl rfl rfl (by first | decide | (simp; done)) rfl) ?_)
        refine AL.nil ?_
        try simp only [thenS, S.put, S.newObj, setL, V.cs, List.length_cons, List.length_nil, List.take_succ_cons, List.take_zero, List.drop_succ_cons, List.drop_zero, List.drop_nil, List.nil_append, List.cons_append, List.append_nil, Nat.zero_add, Nat.reduceAdd, List.map_cons, List.map_nil, List.set_cons_zero, List.set_cons_succ]
        refine AW.seq ?_
        refine AW.region ?_
        refine AL.rp rfl rfl (rp_field_ref Try.underlying56 rfl rfl rfl inf3 (by decide) rfl) ?_
        refine AL.rd rfl rfl (rd_load_ref Try.underlying3 rfl rfl rfl rfl rfl rfl) ?_
        (refine AL.rp rfl rfl (rp_geqT rfl rfl rfl (by first | assumption | omega | (dsimp only; omega))) ?_)
        refine AL.nil ?_
        try simp only [thenS, S.put]
        refine AW.condT rfl ?_
        refine AW.region ?_
        refine AL.rp rfl rfl (rp_field_ref Try.underlying52 rfl rfl rfl inf50 (by decide) rfl) ?_
        refine AL.rd rfl rfl (rd_load_ref Try.underlying50 rfl rfl rfl rfl rfl rfl) ?_
        refine AL.rd rfl rfl (rd_loads_ref Try.underlying56 rfl inf56 rfl rfl rfl rfl rfl rfl) ?_
        refine AL.sm rfl (sm_slice (vs := [(0, _)]) (zs := [.d (.p (.int .i64 0)), .d (.p (.int .i64 0)), .d (.p (.int .i64 0)), .d (.p (.int .i64 0))]) 106 Try.underlying50 inf56 rfl rfl (by decide) (by decide) (by decide) rfl rfl rfl rfl (by simp [S.clean, S.put, S.newObj, S.forget, V.has, V.hasL, junkIf, setL, V.cs, hasL_i, hasL_b, hasL_s, hasL_n, hasL_rep, hasL_flat, hasL_append, -List.map_set]) rfl rfl) ?_
        refine AL.st rfl (st_appendF Try.underlying50 inf56 rfl (by decide) rfl rfl rfl rfl rfl rfl (by first | assumption | rfl | (simp; done)) (by simp [S.clean, S.put, S.newObj, S.forget, V.has, V.hasL, junkIf, setL, V.cs, hasL_i, hasL_b, hasL_s, hasL_n, hasL_rep, hasL_flat, hasL_append, -List.map_set]) rfl rfl rfl rfl rfl rfl rfl (by decide) (by omega) (by omega) rfl) ?_
        simp only [S.forget, S.put, S.newObj, junkIf, V.has, V.hasL, hasL_i, hasL_b, hasL_s, hasL_d, hasL_n, hasL_rep, hasL_flat, hasL_append, List.map_cons, List.map_nil, List.filter_cons, List.filter_nil, Nat.reduceBNe, Nat.reduceBEq, eq_self, bne_self_eq_false,  Bool.not_true, Bool.not_false, Bool.or_false, Bool.or_true, Bool.false_or, Bool.true_or, if_true, if_false, Bool.false_eq_true, ite_true, ite_false, ↓reduceIte, beq_self_eq_true, Nat.reduceEqDiff]
        refine AL.rp rfl rfl (rp_field_ref Try.underlying52 rfl rfl rfl inf50 (by decide) rfl) ?_
        (refine AL.st rfl (st_store inf50 rfl rfl rfl rfl rfl rfl rfl (by first | decide | (simp; done)) rfl) ?_)
        refine AL.nil ?_
        try simp only [thenS, S.put, S.newObj, setL, V.cs, List.length_cons, List.length_nil, List.take_succ_cons, List.take_zero, List.drop_succ_cons, List.drop_zero, List.drop_nil, List.nil_append, List.cons_append, List.append_nil, Nat.zero_add, Nat.reduceAdd, List.map_cons, List.map_nil, List.set_cons_zero, List.set_cons_succ]
        refine AW.region ?_
        refine AL.rp rfl rfl (rp_add rfl rfl rfl (by first | omega | (dsimp only; omega))) ?_
        refine AL.rp rfl rfl (rp_move rfl rfl) ?_
        refine AL.nil ?_
        try simp only [thenS, S.put]
        refine ⟨_, ?_, ⟨i + 1, by omega, rfl⟩, ?_⟩
        ·rw [hsn2]
         simp only [List.flatMap_append, List.flatMap_cons, List.flatMap_nil, List.append_nil, List.length_append, List.length_cons, List.length_nil, Nat.zero_add]
         exact (Less.of rfl (by repeat (first | exact trivial | refine ⟨⟨_, rfl, Wk.refl _⟩, ?_⟩ | refine ⟨⟨_, rfl, Wk.nil _ _⟩, ?_⟩ | refine ⟨⟨_, rfl, Wk.junk _⟩, ?_⟩)) (by repeat (first | exact trivial | refine ⟨rfl, ?_⟩)) rfl)
        ·simp [S.nat, fnd]; omega
       ·have hty : tArc kept ⟨yi, yo, yw, p⟩ = none := by unfold tArc; rw [if_neg hp]
        rw [hty, Option.toList, List.append_nil] at hsn2
        refine AW.seq ?_
        refine AW.region ?_
        (refine AL.rp rfl rfl (rp_lssT rfl rfl rfl (by first | assumption | omega | (dsimp only; omega))) ?_)
        refine AL.nil ?_
        try simp only [thenS, S.put]
        refine AW.seq ?_
        refine AW.condT rfl ?_
        refine AW.skip ?_
        try simp only [thenS]
        refine AW.seq ?_
        refine AW.block ?_
        refine AW.seq ?_
        refine AW.region ?_
        refine AL.rp rfl rfl (rp_index_map Try.underlying50 inf56 rfl rfl rfl rfl (by assumption)) ?_
        refine AL.rd rfl rfl (rd_loads_ad Try.underlying56 rfl inf56 rfl rfl rfl rfl) ?_
        refine AL.sm rfl (sm_alloc (l := [.d (.p (.int .i64 0)), .d (.p (.int .i64 0)), .d (.p (.int .i64 0)), .d (.p (.int .i64 0))]) 16 inf56 rfl (by simp [S.clean, S.put, S.newObj, S.forget, V.has, V.hasL, junkIf, setL, V.cs, hasL_i, hasL_b, hasL_s, hasL_n, hasL_rep, hasL_flat, hasL_append, -List.map_set]) rfl rfl) ?_
        refine AL.st rfl (st_store_any inf56 rfl rfl rfl rfl rfl rfl rfl rfl (by first | decide | (simp; done) | (simp; omega)) rfl) ?_
        refine AL.nil ?_
        try simp only [thenS, S.put, S.newObj, setL, V.cs, List.length_cons, List.length_nil, List.take_succ_cons, List.take_zero, List.drop_succ_cons, List.drop_zero, List.drop_nil, List.nil_append, List.cons_append, List.append_nil, Nat.zero_add, Nat.reduceAdd, List.map_cons, List.map_nil, List.set_cons_zero, List.set_cons_succ]
        refine AW.seq ?_
        refine AW.region ?_
        refine AL.rp rfl rfl (rp_move rfl rfl) ?_
        refine AL.rp rfl rfl (rp_field_ref Try.underlying56 rfl rfl rfl inf3 (by decide) rfl) ?_
        refine AL.rd rfl rfl (rd_load_ref Try.underlying3 rfl rfl rfl rfl rfl rfl) ?_
        refine AL.rp rfl rfl (rp_index_map Try.underlying40 inf3 rfl rfl rfl rfl (by assumption)) ?_
        refine AL.rd rfl rfl (rd_load_ad Try.underlying3 rfl rfl rfl rfl) ?_
        refine AL.rp rfl rfl (rp_field_ref Try.underlying56 rfl rfl rfl inf3 (by decide) rfl) ?_
        (refine AL.st rfl (st_store inf3 rfl rfl rfl rfl rfl rfl rfl (by first | decide | (simp; done)) rfl) ?_)
        refine AL.nil ?_
        try simp only [thenS, S.put, S.newObj, setL, V.cs, List.length_cons, List.length_nil, List.take_succ_cons, List.take_zero, List.drop_succ_cons, List.drop_zero, List.drop_nil, List.nil_append, List.cons_append, List.append_nil, Nat.zero_add, Nat.reduceAdd, List.map_cons, List.map_nil, List.set_cons_zero, List.set_cons_succ]
        refine AW.seq ?_
        refine AW.region ?_
        refine AL.rp rfl rfl (rp_field_ref Try.underlying56 rfl rfl rfl inf3 (by decide) rfl) ?_
        refine AL.rd rfl rfl (rd_load_ref Try.underlying3 rfl rfl rfl rfl rfl rfl) ?_
        (refine AL.rp rfl rfl (rp_geqF rfl rfl rfl (by first | assumption | omega | (dsimp only; omega))) ?_)
        refine AL.nil ?_
        try simp only [thenS, S.put]
        refine AW.condF rfl ?_
        refine AW.skip ?_
        try simp only [thenS]
        refine AW.region ?_
        refine AL.rp rfl rfl (rp_add rfl rfl rfl (by first | omega | (dsimp only; omega))) ?_
        refine AL.rp rfl rfl (rp_move rfl rfl) ?_
        refine AL.nil ?_
        try simp only [thenS, S.put]
        refine ⟨_, ?_, ⟨i + 1, by omega, rfl⟩, ?_⟩
        ·rw [hsn2]
         exact (Less.of rfl (by repeat (first | exact trivial | refine ⟨⟨_, rfl, Wk.refl _⟩, ?_⟩ | refine ⟨⟨_, rfl, Wk.nil _ _⟩, ?_⟩ | refine ⟨⟨_, rfl, Wk.junk _⟩, ?_⟩)) (by repeat (first | exact trivial | refine ⟨rfl, ?_⟩)) rfl)
        ·simp [S.nat, fnd]; omega
      ·have hfull : x.arcs.take i = x.arcs := List.take_of_length_le (by omega)
       rw [hfull] at hfm hfl2 ⊢
       refine AW.seq ?_
       refine AW.region ?_
       (refine AL.rp rfl rfl (rp_lssF rfl rfl rfl (by first | assumption | omega | (dsimp only; omega))) ?_)
       refine AL.nil ?_
       try simp only [thenS, S.put]
       refine AW.seq ?_
       refine AW.condF rfl ?_
       refine AW.exit ?_
       try simp only [thenS, inBlockS, ↓reduceIte, Nat.reduceEqDiff]
       refine AW.freezeH 14 1 32 ((x.arcs.filterMap (tArc kept)).map arD) rfl rfl rfl (by decide) rfl rfl (by rw [List.length_map]) (by omega) (rowsF (enc := arD) (sz := 4) (l := x.arcs.filterMap (tArc kept)) (fun _ => rfl) rfl) ?_
       refine AW.less (s' := ⟨118, [(1, .ref 1 0), (2, .ref 2 0), (8, .d (intsD N)), (11, .ref 11 0), (14, .ref 14 0), (72, .d (stsD sts)), (73, .i n), (74, .i k)], [(1, ⟨24, [.i st, .d (stsD sts)], false, 0⟩), (2, ⟨24, [.i 0, .nil], false, 0⟩), (11, ⟨24, [.i (pl kept st), .own 101 2 ((List.range k).filter K).length (decide (((List.range k).filter K).length = 0))], false, 0⟩), (101, ⟨52, (((List.range k).filter K).map fun q => tState kept (sts.getD q ⟨0, []⟩)).flatMap stV2, decide (((List.range k).filter K).length = 0), 2⟩), (14, ⟨52, [.i x.fin, .d (arsD (x.arcs.filterMap (tArc kept)))], false, 0⟩)], []⟩) (Less.of rfl (by repeat (first | exact trivial | refine ⟨⟨_, rfl, Wk.refl _⟩, ?_⟩ | refine ⟨⟨_, rfl, Wk.nil _ _⟩, ?_⟩ | refine ⟨⟨_, rfl, Wk.junk _⟩, ?_⟩)) (by repeat (first | exact trivial | refine ⟨rfl, ?_⟩)) rfl) ?_
       refine AW.region ?_
       refine AL.rp rfl rfl (rp_field_ref Try.underlying24 rfl rfl rfl inf22 (by decide) rfl) ?_
       refine AL.rd rfl rfl (rd_load_ref Try.underlying22 rfl rfl rfl rfl rfl rfl) ?_
       refine AL.rd rfl rfl (rd_loads_ref Try.underlying52 rfl inf52 rfl rfl rfl rfl rfl rfl) ?_
       refine AL.sm rfl (sm_slice (vs := [(0, _)]) (zs := [.d (.p (.int .i64 0)), .d (.p (.slice none 0 0))]) 113 Try.underlying22 inf52 rfl rfl (by decide) (by decide) (by decide) rfl rfl rfl rfl (by simp [S.clean, S.put, S.newObj, S.forget, V.has, V.hasL, junkIf, setL, V.cs, hasL_i, hasL_b, hasL_s, hasL_n, hasL_rep, hasL_flat, hasL_append, -List.map_set]) rfl rfl) ?_
       refine AL.st rfl (st_appendF Try.underlying22 inf52 rfl (by decide) rfl rfl rfl rfl rfl rfl (by first | assumption | rfl | (simp; done)) (by simp [S.clean, S.put, S.newObj, S.forget, V.has, V.hasL, junkIf, setL, V.cs, hasL_i, hasL_b, hasL_s, hasL_n, hasL_rep, hasL_flat, hasL_append, -List.map_set]) rfl rfl rfl rfl rfl rfl rfl (by decide) (by omega) (by omega) rfl) ?_
       simp only [S.forget, S.put, S.newObj, junkIf, V.has, V.hasL, hasL_i, hasL_b, hasL_s, hasL_d, hasL_n, hasL_rep, hasL_flat, hasL_append, List.map_cons, List.map_nil, List.filter_cons, List.filter_nil, Nat.reduceBNe, Nat.reduceBEq, eq_self, bne_self_eq_false,  Bool.not_true, Bool.not_false, Bool.or_false, Bool.or_true, Bool.false_or, Bool.true_or, if_true, if_false, Bool.false_eq_true, ite_true, ite_false, ↓reduceIte, beq_self_eq_true, Nat.reduceEqDiff]
       refine AL.rp rfl rfl (rp_field_ref Try.underlying24 rfl rfl rfl inf22 (by decide) rfl) ?_
       (refine AL.st rfl (st_store inf22 rfl rfl rfl rfl rfl rfl rfl (by first | decide | (simp; done)) rfl) ?_)
       refine AL.nil ?_
       try simp only [thenS, S.put, S.newObj, setL, V.cs, List.length_cons, List.length_nil, List.take_succ_cons, List.take_zero, List.drop_succ_cons, List.drop_zero, List.drop_nil, List.nil_append, List.cons_append, List.append_nil, Nat.zero_add, Nat.reduceAdd, List.map_cons, List.map_nil, List.set_cons_zero, List.set_cons_succ]
       refine AW.region ?_
       refine AL.rp rfl rfl (rp_add rfl rfl rfl (by first | omega | (dsimp only; omega))) ?_
       refine AL.rp rfl rfl (rp_move rfl rfl) ?_
       refine AL.nil ?_
       try simp only [thenS, S.put]
       refine ⟨_, ?_, ⟨k + 1, by omega, rfl⟩, ?_⟩
       ·rw [hsk]
        simp only [List.map_append, List.map_cons, List.map_nil, hxd, List.flatMap_append, List.flatMap_cons, List.flatMap_nil, List.append_nil, List.length_append, List.length_cons, List.length_nil, Nat.zero_add]
        exact (Less.of rfl (by repeat (first | exact trivial | refine ⟨⟨_, rfl, Wk.refl _⟩, ?_⟩ | refine ⟨⟨_, rfl, Wk.nil _ _⟩, ?_⟩ | refine ⟨⟨_, rfl, Wk.junk _⟩, ?_⟩)) (by repeat (first | exact trivial | refine ⟨rfl, ?_⟩)) rfl)
       ·simp [S.nat, fnd]; omega
     ·rw [if_neg hKk] at hplk hsk
      rw [List.append_nil] at hsk
      have hneg : pl kept k < 0 := by rw [hplk]; omega
      refine AW.seq ?_
      refine AW.region ?_
      (refine AL.rp rfl rfl (rp_lssT rfl rfl rfl (by first | assumption | omega | (dsimp only; omega))) ?_)
      refine AL.nil ?_
      try simp only [thenS, S.put]
      refine AW.seq ?_
      refine AW.condT rfl ?_
      refine AW.skip ?_
      try simp only [thenS]
      refine AW.seq ?_
      refine AW.block ?_
      refine AW.seq ?_
      refine AW.region ?_
      refine AL.rp rfl rfl (rp_move rfl rfl) ?_
      refine AL.rp rfl rfl (rp_index_map Try.underlying22 inf52 rfl rfl rfl rfl (by assumption)) ?_
      refine AL.rd rfl rfl (rd_loads_ad Try.underlying52 rfl inf52 rfl rfl rfl rfl) ?_
      refine AL.sm rfl (sm_alloc (l := [.d (.p (.int .i64 0)), .d (.p (.slice none 0 0))]) 13 inf52 rfl (by simp [S.clean, S.put, S.newObj, S.forget, V.has, V.hasL, junkIf, setL, V.cs, hasL_i, hasL_b, hasL_s, hasL_n, hasL_rep, hasL_flat, hasL_append, -List.map_set]) rfl rfl) ?_
      refine AL.rp rfl rfl (rp_assign rfl rfl) ?_
      refine AL.st rfl (st_store_any inf52 rfl rfl rfl rfl rfl rfl rfl rfl (by first | decide | (simp; done) | (simp; omega)) rfl) ?_
      refine AL.nil ?_
      try simp only [thenS, S.put, S.newObj, setL, V.cs, List.length_cons, List.length_nil, List.take_succ_cons, List.take_zero, List.drop_succ_cons, List.drop_zero, List.drop_nil, List.nil_append, List.cons_append, List.append_nil, Nat.zero_add, Nat.reduceAdd, List.map_cons, List.map_nil, List.set_cons_zero, List.set_cons_succ]
      refine AW.seq ?_
      refine AW.seq ?_
      refine AW.region ?_
      refine AL.rp rfl rfl (rp_move rfl rfl) ?_
      refine AL.rp rfl rfl (rp_move rfl rfl) ?_
      refine AL.rp rfl rfl (rp_index_map Try.underlying40 inf3 rfl rfl rfl rfl (by assumption)) ?_
      refine AL.rd rfl rfl (rd_load_ad Try.underlying3 rfl rfl rfl rfl) ?_
      (refine AL.rp rfl rfl (rp_lssT rfl rfl rfl (by first | assumption | omega | (dsimp only; omega))) ?_)
      refine AL.nil ?_
      try simp only [thenS, S.put]
      refine AW.condT rfl ?_
      refine AW.exit ?_
      try simp only [thenS, inBlockS, ↓reduceIte, Nat.reduceEqDiff]
      refine AW.region ?_
      refine AL.rp rfl rfl (rp_add rfl rfl rfl (by first | omega | (dsimp only; omega))) ?_
      refine AL.rp rfl rfl (rp_move rfl rfl) ?_
      refine AL.nil ?_
      try simp only [thenS, S.put]
      refine ⟨_, ?_, ⟨k + 1, by omega, rfl⟩, ?_⟩
      ·rw [hsk]
       exact (Less.of rfl (by repeat (first | exact trivial | refine ⟨⟨_, rfl, Wk.refl _⟩, ?_⟩ | refine ⟨⟨_, rfl, Wk.nil _ _⟩, ?_⟩ | refine ⟨⟨_, rfl, Wk.junk _⟩, ?_⟩)) (by repeat (first | exact trivial | refine ⟨rfl, ?_⟩)) rfl)
      ·simp [S.nat, fnd]; omega
    ·obtain rfl : k = n := by omega
     rw [← hkept, hc]
     refine AW.seq ?_
     refine AW.region ?_
     (refine AL.rp rfl rfl (rp_lssF rfl rfl rfl (by first | assumption | omega | (dsimp only; omega))) ?_)
     refine AL.nil ?_
     try simp only [thenS, S.put]
     refine AW.seq ?_
     refine AW.condF rfl ?_
     refine AW.exit ?_
     try simp only [thenS, inBlockS, ↓reduceIte, Nat.reduceEqDiff]
     refine AW.seq ?_
     refine AW.freezeH 11 1 32 ((kept.map fun q => tState kept (sts.getD q ⟨0, []⟩)).map stD) rfl rfl rfl (by decide) rfl rfl (by simp [hc]) (by omega) (rowsF (enc := stD) (sz := 2) (l := kept.map fun q => tState kept (sts.getD q ⟨0, []⟩)) (fun _ => rfl) rfl) ?_
     refine AW.region ?_
     refine AL.rd rfl rfl (rd_loads_ref Try.underlying24 rfl inf24 rfl rfl rfl rfl rfl rfl) ?_
     refine AL.st rfl (st_store_any inf24 rfl rfl rfl rfl rfl rfl rfl rfl (by first | decide | (simp; done) | (simp; omega)) rfl) ?_
     refine AL.rp rfl rfl (rp_assign rfl rfl) ?_
     refine AL.nil ?_
     try simp only [thenS, S.put, S.newObj, setL, V.cs, List.length_cons, List.length_nil, List.take_succ_cons, List.take_zero, List.drop_succ_cons, List.drop_zero, List.drop_nil, List.nil_append, List.cons_append, List.append_nil, Nat.zero_add, Nat.reduceAdd, List.map_cons, List.map_nil, List.set_cons_zero, List.set_cons_succ]
     refine AW.ret ?_
     exact ⟨[_, _], ⟨⟨2, 0, _, _, rfl, rfl, rfl, Try.underlying24, .inr ⟨rfl, _, _, _, _, inf24, rfl, rfl, rfl⟩⟩, rfl, trivial⟩, .inr ⟨h0, by rw [hT, h0]; rfl⟩, by simp [tupOf, V.pure, V.has, V.hasL]⟩
 ·obtain ⟨st, sts⟩ := m
  obtain ⟨e, he⟩ : ∃ e, machE ⟨st, sts⟩ = e := ⟨_, rfl⟩
  obtain ⟨A, hA⟩ : ∃ A, aheadL ⟨st, sts⟩ = A := ⟨_, rfl⟩
  rw [he] at h0 ⊢
  refine Fn.intro (n := 118) ⟨Try.func55, rfl, rfl, rfl, rfl⟩ (by simp [V.pure, V.has, V.hasL]) (by simp) fun w0 out => ?_
  refine AW.seq ?_
  refine AW.region ?_
  refine AL.sm rfl (sm_box 1 rfl rfl rfl rfl rfl) ?_
  refine AL.sm rfl (sm_alloc (l := [.d (.p (.int .i64 0)), .d (.p (.slice none 0 0))]) 2 inf24 rfl rfl rfl rfl) ?_
  refine AL.rp rfl rfl (rp_assign rfl rfl) ?_
  refine AL.nil ?_
  try simp only [thenS, S.put, S.newObj, setL, V.cs, List.length_cons, List.length_nil, List.take_succ_cons, List.take_zero, List.drop_succ_cons, List.drop_zero, List.drop_nil, List.nil_append, List.cons_append, List.append_nil, Nat.zero_add, Nat.reduceAdd, List.map_cons, List.map_nil, List.set_cons_zero, List.set_cons_succ, enum]
  refine AW.seq ?_
  refine AW.region ?_
  refine AL.rd rfl rfl (rd_loads_ref Try.underlying24 rfl inf24 rfl rfl rfl rfl rfl rfl) ?_
  refine AL.call (post := ?pc16) rfl (sm_call (args := [_]) ?hc16 ⟨Try.func87, rfl, rfl, rfl, rfl⟩ rfl rfl rfl rfl) ?_
  case hc16 => exact Fn.eqv (am_Ahead ⟨st, sts⟩) (by rw [hA, he])
  rintro _ rfl -
  try dsimp only
  refine AL.rp rfl rfl (rp_move rfl rfl) ?_
  refine AL.rp rfl rfl (rp_extract rfl rfl rfl) ?_
  refine AL.rp rfl rfl (rp_extract rfl rfl rfl) ?_
  refine AL.rp rfl rfl (rp_assign rfl rfl) ?_
  refine AL.rp rfl rfl (rp_assign rfl rfl) ?_
  refine AL.nil ?_
  try simp only [thenS, S.put, S.newObj, setL, V.cs, List.length_cons, List.length_nil, List.take_succ_cons, List.take_zero, List.drop_succ_cons, List.drop_zero, List.drop_nil, List.nil_append, List.cons_append, List.append_nil, Nat.zero_add, Nat.reduceAdd, List.map_cons, List.map_nil, List.set_cons_zero, List.set_cons_succ]
  refine AW.seq ?_
  refine AW.seq ?_
  refine AW.region ?_
  refine AL.rp rfl rfl (rp_move rfl rfl) ?_
  (refine AL.rp rfl rfl (rp_neqT rfl rfl rfl (by first | assumption | omega | (dsimp only; omega))) ?_)
  refine AL.nil ?_
  try simp only [thenS, S.put]
  refine AW.condT rfl ?_
  refine AW.seq ?_
  refine AW.region ?_
  refine AL.rp rfl rfl (rp_build (vs := []) (zs := [.d (.p (.int .i64 0)), .d (.p (.slice none 0 0))]) pl24 inf24 rfl rfl rfl rfl) ?_
  refine AL.rp rfl rfl (rp_move rfl rfl) ?_
  refine AL.st rfl (st_store_any inf24 rfl rfl rfl rfl rfl rfl rfl rfl (by first | decide | (simp; done) | (simp; omega)) rfl) ?_
  refine AL.rp rfl rfl (rp_assign rfl rfl) ?_
  refine AL.nil ?_
  try simp only [thenS, S.put, S.newObj, setL, V.cs, List.length_cons, List.length_nil, List.take_succ_cons, List.take_zero, List.drop_succ_cons, List.drop_zero, List.drop_nil, List.nil_append, List.cons_append, List.append_nil, Nat.zero_add, Nat.reduceAdd, List.map_cons, List.map_nil, List.set_cons_zero, List.set_cons_succ]
  refine AW.ret ?_
  exact ⟨[_, _], ⟨⟨2, 0, _, _, rfl, rfl, rfl, Try.underlying24, .inr ⟨rfl, _, _, _, _, inf24, rfl, rfl, rfl⟩⟩, rfl, trivial⟩, .inl ⟨h0, rfl⟩, by simp [tupOf, V.pure, V.has, V.hasL]⟩
theorem am_Trim (m : Mach) : Fn Try.prog 55 [mV m] (fun v => v = .tup [mV (trimM m), .i (machE m)]) := (am_Trim0 m).wkS (trimM_wk m)
end Go.Proofs.Ytjbldphpkkmdpaa
