/- reach.Ahead answers the set of states that can be reached. -/
import Derived.Test.YtjbldphpkkmdpaaAmCheck
import Derived.Test.YtjbldphpkkmdpaaAmAheadOf
namespace Go.Proofs.Ytjbldphpkkmdpaa
open Go.RowKit
set_option linter.unusedSimpArgs false
set_option linter.unusedVariables false
set_option maxRecDepth 100000

theorem am_Ahead0 (m : Mach) : Fn Try.prog 87 [mV m] (fun v => (machE m ≠ 0 ∧ v = .tup [.nil, .i (machE m)]) ∨ (machE m = 0 ∧ v = .tup [.d (boolsD (aheadL m)), .i (machE m)])) := by
 refine Fn.mach m 0 rfl fun hb hal => ?_
 by_cases h0 : machE m = 0
 ·have hA : aheadL m = rchL (aInit m) (aEdge m) m.states.length := by unfold aheadL; rw [if_pos h0]
  have hin := a_in h0
  obtain ⟨h60, h400, hst, hz⟩ := machE_zero h0
  obtain ⟨st, sts⟩ := m
  simp only at h60 h400 hst hz hb hal hA hin
  obtain ⟨n, hn⟩ : ∃ n, sts.length = n := ⟨_, rfl⟩
  rw [hn] at h60 hst hz hb hA hin
  refine Fn.intro (n := 25) ⟨Try.func87, rfl, rfl, rfl, rfl⟩ (by simp [V.pure, V.has, V.hasL]) (by simp) fun w0 out => ?_
  refine AW.seq ?_
  refine AW.region ?_
  refine AL.sm rfl (sm_box 1 rfl rfl rfl rfl rfl) ?_
  refine AL.rp rfl rfl (rp_assign rfl rfl) ?_
  refine AL.rp rfl rfl (rp_assign rfl rfl) ?_
  refine AL.nil ?_
  try simp only [thenS, S.put, S.newObj, setL, V.cs, List.length_cons, List.length_nil, List.take_succ_cons, List.take_zero, List.drop_succ_cons, List.drop_zero, List.drop_nil, List.nil_append, List.cons_append, List.append_nil, Nat.zero_add, Nat.reduceAdd, List.map_cons, List.map_nil, List.set_cons_zero, List.set_cons_succ, enum]
  refine AW.seq ?_
  refine AW.seq ?_
  refine AW.region ?_
  refine AL.rd rfl rfl (rd_loads_ref Try.underlying24 rfl inf24 rfl rfl rfl rfl rfl rfl) ?_
  refine AL.call (post := ?pc2) rfl (sm_call (args := [_]) ?hc2 ⟨Try.func48, rfl, rfl, rfl, rfl⟩ rfl rfl rfl rfl) ?_
  case hc2 => exact Fn.eqi (am_Check ⟨st, sts⟩) h0
  rintro _ rfl -
  try dsimp only
  refine AL.rp rfl rfl (rp_assign rfl rfl) ?_
  refine AL.nil ?_
  try simp only [thenS, S.put, S.newObj, setL, V.cs, List.length_cons, List.length_nil, List.take_succ_cons, List.take_zero, List.drop_succ_cons, List.drop_zero, List.drop_nil, List.nil_append, List.cons_append, List.append_nil, Nat.zero_add, Nat.reduceAdd, List.map_cons, List.map_nil, List.set_cons_zero, List.set_cons_succ]
  refine AW.seq ?_
  refine AW.region ?_
  refine AL.rp rfl rfl (rp_move rfl rfl) ?_
  (refine AL.rp rfl rfl (rp_neqF rfl rfl rfl (by first | assumption | omega | (dsimp only; omega))) ?_)
  refine AL.nil ?_
  try simp only [thenS, S.put]
  refine AW.condF rfl ?_
  refine AW.skip ?_
  try simp only [thenS]
  refine AW.seq ?_
  refine AW.region ?_
  refine AL.rp rfl rfl (rp_assign rfl rfl) ?_
  refine AL.nil ?_
  try simp only [thenS, S.put]
  refine AW.adopt 5 100 1 3 rfl (by simp [S.clean, V.has, V.hasL]) ?_
  refine AW.seqc (fun s' => ∃ F : List Nat, (∀ x, x ∈ F ↔ aInit ⟨st, sts⟩ x) ∧ F.length ≤ n ∧ s' = ⟨25, [(1, .ref 1 0), (5, .own 100 1 F.length (decide (F.length = 0)))], [(1, ⟨24, [.i st, .d (stsD sts)], false, 0⟩), (100, ⟨3, F.map V.n, decide (F.length = 0), 1⟩)], []⟩) ?_ ?_
  ·skip
   by_cases hs0 : 0 ≤ st
   ·obtain ⟨p, rfl⟩ : ∃ p : Nat, st = p := ⟨st.toNat, by omega⟩
    refine AW.seq ?_
    refine AW.region ?_
    refine AL.rp rfl rfl (rp_field_ref Try.underlying24 rfl rfl rfl inf3 (by decide) rfl) ?_
    refine AL.rd rfl rfl (rd_load_ref Try.underlying3 rfl rfl rfl rfl rfl rfl) ?_
    (refine AL.rp rfl rfl (rp_geqT rfl rfl rfl (by first | assumption | omega | (dsimp only; omega))) ?_)
    refine AL.nil ?_
    try simp only [thenS, S.put]
    refine AW.condT rfl ?_
    refine AW.region ?_
    refine AL.rp rfl rfl (rp_move rfl rfl) ?_
    refine AL.rp rfl rfl (rp_field_ref Try.underlying24 rfl rfl rfl inf3 (by decide) rfl) ?_
    refine AL.rd rfl rfl (rd_load_ref Try.underlying3 rfl rfl rfl rfl rfl rfl) ?_
    refine AL.sm rfl (sm_slice (vs := [(0, _)]) (zs := [.d (.p (.int .i64 0))]) 17 Try.underlying40 inf3 rfl rfl (by decide) (by decide) (by decide) rfl rfl rfl rfl rfl rfl rfl) ?_
    refine AL.st rfl (st_appendF Try.underlying40 inf3 rfl (by decide) rfl rfl rfl rfl rfl rfl (by first | assumption | rfl | (simp; done)) rfl rfl rfl rfl rfl rfl rfl rfl (by decide) (by omega) (by omega) rfl) ?_
    simp only [S.forget, S.put, S.newObj, junkIf, V.has, V.hasL, hasL_i, hasL_b, hasL_s, hasL_d, hasL_n, hasL_rep, hasL_flat, hasL_append, List.map_cons, List.map_nil, List.filter_cons, List.filter_nil, Nat.reduceBNe, Nat.reduceBEq, eq_self, bne_self_eq_false,  Bool.not_true, Bool.not_false, Bool.or_false, Bool.or_true, Bool.false_or, Bool.true_or, if_true, if_false, Bool.false_eq_true, ite_true, ite_false, ↓reduceIte, beq_self_eq_true, Nat.reduceEqDiff]
    refine AL.rp rfl rfl (rp_assign rfl rfl) ?_
    refine AL.nil ?_
    try simp only [thenS, S.put, S.newObj, setL, V.cs, List.length_cons, List.length_nil, List.take_succ_cons, List.take_zero, List.drop_succ_cons, List.drop_zero, List.drop_nil, List.nil_append, List.cons_append, List.append_nil, Nat.zero_add, Nat.reduceAdd, List.map_cons, List.map_nil, List.set_cons_zero, List.set_cons_succ]
    refine ⟨_, ?_, [p], ?_, ?_, rfl⟩
    ·exact (Less.of rfl (by repeat (first | exact trivial | refine ⟨⟨_, rfl, Wk.refl _⟩, ?_⟩ | refine ⟨⟨_, rfl, Wk.nil _ _⟩, ?_⟩ | refine ⟨⟨_, rfl, Wk.junk _⟩, ?_⟩)) (by repeat (first | exact trivial | refine ⟨rfl, ?_⟩)) rfl)
    ·intro x
     simp [aInit, hn]
     omega
    ·simp; omega
   ·skip
    refine AW.seq ?_
    refine AW.region ?_
    refine AL.rp rfl rfl (rp_field_ref Try.underlying24 rfl rfl rfl inf3 (by decide) rfl) ?_
    refine AL.rd rfl rfl (rd_load_ref Try.underlying3 rfl rfl rfl rfl rfl rfl) ?_
    (refine AL.rp rfl rfl (rp_geqF rfl rfl rfl (by first | assumption | omega | (dsimp only; omega))) ?_)
    refine AL.nil ?_
    try simp only [thenS, S.put]
    refine AW.condF rfl ?_
    refine AW.skip ?_
    try simp only [thenS]
    refine ⟨_, ?_, [], ?_, ?_, rfl⟩
    ·exact (Less.of rfl (by repeat (first | exact trivial | refine ⟨⟨_, rfl, Wk.refl _⟩, ?_⟩ | refine ⟨⟨_, rfl, Wk.nil _ _⟩, ?_⟩ | refine ⟨⟨_, rfl, Wk.junk _⟩, ?_⟩)) (by repeat (first | exact trivial | refine ⟨rfl, ?_⟩)) rfl)
    ·intro x
     simp [aInit]
     omega
    ·simp
  ·rintro s' ⟨F, hF, hFn, rfl⟩
   obtain ⟨f, hf⟩ : ∃ f, decide (F.length = 0) = f := ⟨_, rfl⟩
   rw [hf]
   have hFf : f = true → F = [] := by intro h; subst h; simpa using hf
   refine AW.seq ?_
   refine AW.region ?_
   refine AL.rp rfl rfl (rp_field_ref Try.underlying24 rfl rfl rfl inf22 (by decide) rfl) ?_
   refine AL.rd rfl rfl (rd_load_ref Try.underlying22 rfl rfl rfl rfl rfl rfl) ?_
   refine AL.rp rfl rfl (rp_len_map Try.underlying22 rfl rfl (by assumption)) ?_
   refine AL.rp rfl rfl (rp_move rfl rfl) ?_
   refine AL.rp rfl rfl (rp_func (vs := [_]) rfl rfl) ?_
   refine AL.inline [] (ts := []) (ars := [_, _, _]) rfl rfl ⟨Try.func115, rfl, rfl, rfl, rfl⟩ rfl rfl rfl (by simp) rfl fun kx => ?_
   try simp only [thenS, S.put, enum, List.nil_append, List.cons_append, List.append_nil, Nat.zero_add, Nat.reduceAdd]
   refine AW.seq ?_
   refine AW.region ?_
   refine AL.rp rfl rfl (rp_assign rfl rfl) ?_
   refine AL.nil ?_
   try simp only [thenS, S.put]
   refine AW.seq ?_
   refine AW.region ?_
   refine AL.rp rfl rfl (rp_move rfl rfl) ?_
   refine AL.sm rfl (sm_make_map 13 V.b (false) Try.underlying107 inf4 rfl rfl rfl rfl rfl (by omega) (by decide) (by simp [S.clean, S.put, S.newObj, S.forget, V.has, V.hasL, junkIf, setL, V.cs, hasL_i, hasL_b, hasL_s, hasL_n, hasL_rep, hasL_flat, hasL_append, -List.map_set]) rfl) ?_
   refine AL.sm rfl (sm_alloc (l := [.d (.p (.slice none 0 0))]) 7 inf107 rfl (by simp [S.clean, S.put, S.newObj, S.forget, V.has, V.hasL, junkIf, setL, V.cs, hasL_i, hasL_b, hasL_s, hasL_n, hasL_rep, hasL_flat, hasL_append, -List.map_set]) rfl rfl) ?_
   (refine AL.st rfl (st_store inf107 rfl rfl rfl rfl rfl rfl rfl (by first | decide | (simp; done)) rfl) ?_)
   refine AL.nil ?_
   try simp only [thenS, S.put, S.newObj, setL, V.cs, List.length_cons, List.length_nil, List.take_succ_cons, List.take_zero, List.drop_succ_cons, List.drop_zero, List.drop_nil, List.nil_append, List.cons_append, List.append_nil, Nat.zero_add, Nat.reduceAdd, List.map_cons, List.map_nil, List.set_cons_zero, List.set_cons_succ]
   refine AW.seq ?_
   refine AW.region ?_
   refine AL.rp rfl rfl (rp_move rfl rfl) ?_
   refine AL.sm rfl (sm_alloc (l := [.d (.p (.slice none 0 0))]) 8 inf40 rfl (by simp [S.clean, S.put, S.newObj, S.forget, V.has, V.hasL, junkIf, setL, V.cs, hasL_i, hasL_b, hasL_s, hasL_n, hasL_rep, hasL_flat, hasL_append, -List.map_set]) rfl rfl) ?_
   (refine AL.st rfl (st_store inf40 rfl rfl rfl rfl rfl rfl rfl (by first | decide | (simp; done)) rfl) ?_)
   refine AL.nil ?_
   try simp only [thenS, S.put, S.newObj, setL, V.cs, List.length_cons, List.length_nil, List.take_succ_cons, List.take_zero, List.drop_succ_cons, List.drop_zero, List.drop_nil, List.nil_append, List.cons_append, List.append_nil, Nat.zero_add, Nat.reduceAdd, List.map_cons, List.map_nil, List.set_cons_zero, List.set_cons_succ]
   refine AW.seq ?_
   refine AW.seq ?_
   refine AW.region ?_
   refine AL.rp rfl rfl (rp_move rfl rfl) ?_
   refine AL.rp rfl rfl (rp_len_own Try.underlying40 rfl rfl) ?_
   refine AL.rp rfl rfl (rp_move rfl rfl) ?_
   refine AL.nil ?_
   try simp only [thenS, S.put]
   refine AW.block ?_
   refine AW.loop (fun s' => ∃ (k : Nat) (L : List Bool), k ≤ F.length ∧ L.length = n ∧ (∀ x, L[x]? = some true ↔ x ∈ F.take k) ∧ s' = ⟨44, [(2, .fn 116 [.ref 1 0]), (7, .ref 7 0), (8, .ref 8 0), (15, .own 100 1 F.length f), (16, .i F.length), (17, .i k)], [(1, ⟨24, [.i st, .d (stsD sts)], false, 0⟩), (100, ⟨3, F.map V.n, f, 1⟩), (7, ⟨107, [.own 13 1 n false], false, 0⟩), (8, ⟨40, [.own 100 1 F.length f], false, 0⟩), (13, ⟨4, L.map V.b, false, 1⟩)], []⟩) (fun s' => F.length - s'.nat 17) ⟨_, ?_, 0, List.replicate n false, by omega, by simp, by simp [List.getElem?_replicate], rfl⟩ ?_
   ·exact (Less.of rfl (by repeat (first | exact trivial | refine ⟨⟨_, rfl, Wk.refl _⟩, ?_⟩ | refine ⟨⟨_, rfl, Wk.nil _ _⟩, ?_⟩ | refine ⟨⟨_, rfl, Wk.junk _⟩, ?_⟩)) (by repeat (first | exact trivial | refine ⟨rfl, ?_⟩)) rfl)
   rintro s' ⟨k, L, hk, hL, hLF, rfl⟩
   by_cases hlt : k < F.length
   ·obtain ⟨q, hq⟩ := get_lt rfl hlt
    obtain rfl : f = false := by cases f with | false => rfl | true => rw [hFf rfl] at hlt; simp at hlt
    have hqn : q < n := by have := ((hF q).1 (List.mem_of_getElem? hq)).2; simpa [hn] using this
    have hqL : q < L.length := by omega
    refine AW.seq ?_
    refine AW.region ?_
    (refine AL.rp rfl rfl (rp_lssT rfl rfl rfl (by first | assumption | omega | (dsimp only; omega))) ?_)
    refine AL.nil ?_
    try simp only [thenS, S.put]
    refine AW.seq ?_
    refine AW.condT rfl ?_
    refine AW.skip ?_
    try simp only [thenS]
    refine AW.seq ?_
    refine AW.block ?_
    refine AW.seq ?_
    refine AW.region ?_
    refine AL.rp rfl rfl (rp_index_own Try.underlying40 inf3 rfl rfl rfl rfl (by first | assumption | omega)) ?_
    refine AL.rd rfl rfl (rd_load_map Try.underlying3 rfl rfl rfl rfl rfl rfl (by assumption)) ?_
    refine AL.rp rfl rfl (rp_assign rfl rfl) ?_
    refine AL.nil ?_
    try simp only [thenS, S.put]
    refine AW.region ?_
    refine AL.rd rfl rfl (rd_load_ref Try.underlying107 rfl rfl rfl rfl rfl rfl) ?_
    refine AL.rp rfl rfl (rp_move rfl rfl) ?_
    refine AL.rp rfl rfl (rp_index_own Try.underlying107 inf4 rfl rfl rfl rfl (by first | assumption | omega)) ?_
    refine AL.st rfl (st_store_map2 inf4 rfl rfl rfl rfl rfl rfl rfl rfl (by first | assumption | omega)) ?_
    refine AL.nil ?_
    try simp only [thenS, S.put, S.newObj, setL, V.cs, List.length_cons, List.length_nil, List.take_succ_cons, List.take_zero, List.drop_succ_cons, List.drop_zero, List.drop_nil, List.nil_append, List.cons_append, List.append_nil, Nat.zero_add, Nat.reduceAdd, List.map_cons, List.map_nil, List.set_cons_zero, List.set_cons_succ]
    refine AW.region ?_
    refine AL.rp rfl rfl (rp_add rfl rfl rfl (by first | omega | (dsimp only; omega))) ?_
    refine AL.rp rfl rfl (rp_move rfl rfl) ?_
    refine AL.nil ?_
    try simp only [thenS, S.put]
    refine ⟨_, ?_, ⟨k + 1, L.set q true, by omega, by simpa using hL, fun x => ?_, rfl⟩, ?_⟩
    ·exact (Less.of rfl (by repeat (first | exact trivial | refine ⟨⟨_, rfl, Wk.refl _⟩, ?_⟩ | refine ⟨⟨_, rfl, Wk.nil _ _⟩, ?_⟩ | refine ⟨⟨_, rfl, Wk.junk _⟩, ?_⟩)) (by repeat (first | exact trivial | refine ⟨rfl, ?_⟩)) rfl)
    ·rw [List.getElem?_set, take_snoc hq, List.mem_append, ← hLF x]
     by_cases e : q = x
     ·subst e; simp [hqL]
     ·simp [e, Ne.symm e]
    ·simp [S.nat, fnd]; omega
   ·rw [List.take_of_length_le (by omega)] at hLF
    have hfld : Fld (aInit ⟨st, sts⟩) (aEdge ⟨st, sts⟩) n (fun _ => False) L F := Fld.start hL hLF (fun x hx => (hF x).1 hx)
    have hLi : ∀ x, aInit ⟨st, sts⟩ x → L[x]? = some true := fun x hx => (hLF x).2 ((hF x).2 hx)
    clear hLF
    refine AW.seq ?_
    refine AW.region ?_
    (refine AL.rp rfl rfl (rp_lssF rfl rfl rfl (by first | assumption | omega | (dsimp only; omega))) ?_)
    refine AL.nil ?_
    try simp only [thenS, S.put]
    refine AW.seq ?_
    refine AW.condF rfl ?_
    refine AW.exit ?_
    try simp only [thenS, inBlockS, ↓reduceIte, Nat.reduceEqDiff]
    refine AW.seq ?_
    refine AW.block ?_
    refine AW.loopN (fun μ s' => ∃ (L : List Bool) (todo : List Nat), μ ≤ 300 ∧ 2 * L.count false + todo.length ≤ μ ∧ (f = true → todo = []) ∧ Fld (aInit ⟨st, sts⟩) (aEdge ⟨st, sts⟩) n (fun _ => False) L todo ∧ (∀ x, aInit ⟨st, sts⟩ x → L[x]? = some true) ∧ s' = ⟨44, [(2, .fn 116 [.ref 1 0]), (7, .ref 7 0), (8, .ref 8 0)], [(1, ⟨24, [.i st, .d (stsD sts)], false, 0⟩), (100, ⟨3, todo.map V.n, f, 1⟩), (7, ⟨107, [.own 13 1 n false], false, 0⟩), (8, ⟨40, [.own 100 1 todo.length f], false, 0⟩), (13, ⟨4, L.map V.b, false, 1⟩)], []⟩) ⟨_, _, ?_, L, F, by have := List.count_le_length (l := L) (a := false); omega, Nat.le_refl _, hFf, hfld, hLi, rfl⟩ ?_
    ·exact (Less.of rfl (by repeat (first | exact trivial | refine ⟨⟨_, rfl, Wk.refl _⟩, ?_⟩ | refine ⟨⟨_, rfl, Wk.nil _ _⟩, ?_⟩ | refine ⟨⟨_, rfl, Wk.junk _⟩, ?_⟩)) (by repeat (first | exact trivial | refine ⟨rfl, ?_⟩)) rfl)
    rintro μ s' ⟨L, todo, hμ3, hμ, hft, hfl, hLi, rfl⟩
    rcases List.eq_nil_or_concat todo with hnil | ⟨T, q, hTq⟩
    ·have hz0 : ¬ 0 < todo.length := by simp [hnil]
     have hL := hfl.done hnil (fun _ h => h) hLi hin
     refine AW.seq ?_
     refine AW.seq ?_
     refine AW.region ?_
     refine AL.rd rfl rfl (rd_load_ref Try.underlying40 rfl rfl rfl rfl rfl rfl) ?_
     refine AL.rp rfl rfl (rp_len_own Try.underlying40 rfl rfl) ?_
     (refine AL.rp rfl rfl (rp_gtrF rfl rfl rfl (by first | assumption | omega | (dsimp only; omega))) ?_)
     refine AL.nil ?_
     try simp only [thenS, S.put]
     refine AW.condF rfl ?_
     refine AW.exit ?_
     try simp only [thenS, inBlockS, ↓reduceIte, Nat.reduceEqDiff]
     refine AW.seq ?_
     refine AW.region ?_
     refine AL.rd rfl rfl (rd_load_ref Try.underlying107 rfl rfl rfl rfl rfl rfl) ?_
     refine AL.rp rfl rfl (rp_assign rfl rfl) ?_
     refine AL.nil ?_
     try simp only [thenS, S.put]
     refine AW.ret ?_
     try simp only [thenS, inBlockS, ↓reduceIte, Nat.reduceEqDiff]
     refine ⟨[_], ⟨rfl, trivial⟩, ?_⟩
     try simp only [S.put, tupOf, List.zip_cons_cons, List.zip_nil_left, List.drop_succ_cons, List.drop_zero, List.length_cons, List.length_nil, Nat.zero_add, Nat.reduceAdd]
     refine AL.rp rfl rfl (rp_assign rfl rfl) ?_
     refine AL.rp rfl rfl (rp_assign rfl rfl) ?_
     refine AL.nil ?_
     try simp only [thenS, S.put]
     refine AW.freeze 2 1 (L.map fun b => [.p (.bool b)]) rfl rfl rfl (by rw [List.length_map, hfl.len]) (by omega) (rows1 rfl) ?_
     refine AW.ret ?_
     exact ⟨[_, _], ⟨rfl, rfl, trivial⟩, .inr ⟨h0, by rw [h0, hA, ← hL]; rfl⟩, by simp [tupOf, V.pure, V.has, V.hasL]⟩
    ·rw [List.concat_eq_append] at hTq
     subst hTq
     obtain rfl : f = false := by cases f with | false => rfl | true => simp at hft
     obtain ⟨t, ht⟩ : ∃ t, T.length = t := ⟨_, rfl⟩
     have hlen : (T ++ [q]).length = t + 1 := by simp [ht]
     rw [hlen] at hμ ⊢
     have hlast : (T ++ [q])[t]? = some q := by simp [← ht]
     obtain ⟨hqL, hfl⟩ := hfl.take
     have hqn : q < n := by have := (List.getElem?_eq_some_iff.1 hqL).1; rw [hfl.len] at this; exact this
     have hLs : L.length = n := hfl.len
     have hcf : L.count false ≤ n := by rw [← hLs]; exact List.count_le_length
     obtain ⟨x, hx⟩ := get_lt hn hqn
     obtain ⟨la, hla⟩ : ∃ n, x.arcs.length = n := ⟨_, rfl⟩
     have hla' := hal x (List.mem_of_getElem? hx)
     refine AW.seq ?_
     refine AW.seq ?_
     refine AW.region ?_
     refine AL.rd rfl rfl (rd_load_ref Try.underlying40 rfl rfl rfl rfl rfl rfl) ?_
     refine AL.rp rfl rfl (rp_len_own Try.underlying40 rfl rfl) ?_
     (refine AL.rp rfl rfl (rp_gtrT rfl rfl rfl (by first | assumption | omega | (dsimp only; omega))) ?_)
     refine AL.nil ?_
     try simp only [thenS, S.put]
     refine AW.condT rfl ?_
     refine AW.skip ?_
     try simp only [thenS]
     refine AW.block ?_
     refine AW.seq ?_
     refine AW.region ?_
     refine AL.rd rfl rfl (rd_load_ref Try.underlying40 rfl rfl rfl rfl rfl rfl) ?_
     refine AL.rd rfl rfl (rd_load_ref Try.underlying40 rfl rfl rfl rfl rfl rfl) ?_
     refine AL.rp rfl rfl (rp_len_own Try.underlying40 rfl rfl) ?_
     refine AL.rp rfl rfl (rp_sub rfl rfl rfl (by first | omega | (dsimp only; omega))) ?_
     refine AL.rp rfl rfl (rp_index_own (k := t) Try.underlying40 inf3 rfl rfl rfl (by omega) (by omega)) ?_
     refine AL.rd rfl rfl (rd_load_map Try.underlying3 rfl rfl rfl rfl rfl rfl (by assumption)) ?_
     refine AL.rp rfl rfl (rp_assign rfl rfl) ?_
     refine AL.nil ?_
     try simp only [thenS, S.put]
     refine AW.seq ?_
     refine AW.region ?_
     refine AL.rd rfl rfl (rd_load_ref Try.underlying40 rfl rfl rfl rfl rfl rfl) ?_
     refine AL.rd rfl rfl (rd_load_ref Try.underlying40 rfl rfl rfl rfl rfl rfl) ?_
     refine AL.rp rfl rfl (rp_len_own Try.underlying40 rfl rfl) ?_
     refine AL.rp rfl rfl (rp_sub rfl rfl rfl (by first | omega | (dsimp only; omega))) ?_
     refine AL.rd rfl rfl (rp_slice_own (k := t) Try.underlying40 inf3 rfl rfl rfl (by omega) (by omega)) ?_
     (refine AL.st rfl (st_store inf40 rfl rfl rfl rfl rfl rfl rfl (by first | decide | (simp; done)) rfl) ?_)
     refine AL.nil ?_
     try simp only [thenS, S.put, S.newObj, setL, V.cs, List.length_cons, List.length_nil, List.take_succ_cons, List.take_zero, List.drop_succ_cons, List.drop_zero, List.drop_nil, List.nil_append, List.cons_append, List.append_nil, Nat.zero_add, Nat.reduceAdd, List.map_cons, List.map_nil, List.set_cons_zero, List.set_cons_succ]
     refine AW.cut 100 (T.map V.n) rfl ⟨[V.n q], by simp⟩ ?_
     refine AW.region ?_
     refine AL.rp rfl rfl (rp_move rfl rfl) ?_
     refine AL.rp rfl rfl (rp_move rfl rfl) ?_
     refine AL.rp rfl rfl (rp_func (vs := [_, _]) rfl rfl) ?_
     refine AL.inline [2, 7, 8] (ts := [_, _, _]) (ars := [_, _]) rfl rfl ⟨Try.func116, rfl, rfl, rfl, rfl⟩ rfl rfl rfl (by simp) rfl fun kx => ?_
     try simp only [thenS, S.put, enum, List.nil_append, List.cons_append, List.append_nil, Nat.zero_add, Nat.reduceAdd]
     refine AW.seq ?_
     refine AW.region ?_
     refine AL.rp rfl rfl (rp_field_ref Try.underlying24 rfl rfl rfl inf22 (by decide) rfl) ?_
     refine AL.rd rfl rfl (rd_load_ref Try.underlying22 rfl rfl rfl rfl rfl rfl) ?_
     refine AL.rp rfl rfl (rp_move rfl rfl) ?_
     refine AL.rp rfl rfl (rp_index_map Try.underlying22 inf52 rfl rfl rfl rfl (by assumption)) ?_
     refine AL.rp rfl rfl (rp_field_ad Try.underlying52 rfl rfl rfl inf50 (by decide) rfl) ?_
     refine AL.rd rfl rfl (rd_load_ad Try.underlying50 rfl rfl rfl rfl) ?_
     refine AL.rp rfl rfl (rp_len_map Try.underlying50 rfl rfl (by assumption)) ?_
     refine AL.rp rfl rfl (rp_move rfl rfl) ?_
     refine AL.nil ?_
     try simp only [thenS, S.put]
     refine AW.block ?_
     refine AW.loop (fun s' => ∃ (i : Nat) (L : List Bool) (T : List Nat), i ≤ la ∧ 2 * L.count false + T.length < μ ∧ Fld (aInit ⟨st, sts⟩) (aEdge ⟨st, sts⟩) n (fun x => x = q) L T ∧ L[q]? = some true ∧ (∀ x, aInit ⟨st, sts⟩ x → L[x]? = some true) ∧ (∀ (j : Nat) (a : Ar) (p : Nat), j < i → x.arcs[j]? = some a → a.t = (p : Int) → L[p]? = some true) ∧ s' = ⟨23, [(1, .fn 126 [.ref 7 0, .ref 8 0]), (12, .d (arsD x.arcs)), (13, .i la), (14, .i i)], [(1, ⟨24, [.i st, .d (stsD sts)], false, 0⟩), (100, ⟨3, T.map V.n, false, 1⟩), (7, ⟨107, [.own 13 1 n false], false, 0⟩), (8, ⟨40, [.own 100 1 T.length false], false, 0⟩), (13, ⟨4, L.map V.b, false, 1⟩)], [.fn 116 [.ref 1 0], .ref 7 0, .ref 8 0]⟩) (fun s' => la - s'.nat 14) ⟨_, ?_, 0, L, T, by omega, by omega, hfl, hqL, hLi, fun j a p h => absurd h (by omega), rfl⟩ ?_
     ·rw [ht]; exact (Less.of rfl (by repeat (first | exact trivial | refine ⟨⟨_, rfl, Wk.refl _⟩, ?_⟩ | refine ⟨⟨_, rfl, Wk.nil _ _⟩, ?_⟩ | refine ⟨⟨_, rfl, Wk.junk _⟩, ?_⟩)) (by repeat (first | exact trivial | refine ⟨rfl, ?_⟩)) rfl)
     rintro s' ⟨i, L, T, hi, hμ', hfl, hqL, hLi, hdone, rfl⟩
     by_cases hil : i < la
     ·obtain ⟨y, hy⟩ := get_lt hla hil
      have hyt := (hz x (List.mem_of_getElem? hx)).2 y (List.mem_of_getElem? hy)
      obtain ⟨yi, yo, yw, yt⟩ := y
      simp only [arOk, decide_eq_true_eq] at hyt
      obtain ⟨p, rfl⟩ : ∃ p : Nat, yt = p := ⟨yt.toNat, by omega⟩
      have hpn : p < n := by omega
      have hLs : L.length = n := hfl.len
      obtain ⟨b, hb⟩ := get_lt hLs hpn
      have hpl : p < L.length := by omega
      have hedge : aEdge ⟨st, sts⟩ q p := ⟨x, _, hx, List.mem_of_getElem? hy, rfl⟩
      have hnew : ∀ L' : List Bool, (∀ z : Nat, L[z]? = some true → L'[z]? = some true) → L'[p]? = some true → ∀ (j : Nat) (a : Ar) (r : Nat), j < i + 1 → x.arcs[j]? = some a → a.t = (r : Int) → L'[r]? = some true := by
       intro L' h1 h2 j a r hj ha hr
       by_cases e : j = i
       ·subst e
        rw [hy] at ha
        simp only [Option.some.injEq] at ha
        subst ha
        simp only at hr
        obtain rfl : p = r := by omega
        exact h2
       ·exact h1 r (hdone j a r (by omega) ha hr)
      refine AW.seq ?_
      refine AW.region ?_
      (refine AL.rp rfl rfl (rp_lssT rfl rfl rfl (by first | assumption | omega | (dsimp only; omega))) ?_)
      refine AL.nil ?_
      try simp only [thenS, S.put]
      refine AW.seq ?_
      refine AW.condT rfl ?_
      refine AW.skip ?_
      try simp only [thenS]
      refine AW.seq ?_
      refine AW.block ?_
      refine AW.seq ?_
      refine AW.region ?_
      refine AL.rp rfl rfl (rp_index_map Try.underlying50 inf56 rfl rfl rfl rfl (by assumption)) ?_
      refine AL.rd rfl rfl (rd_loads_ad Try.underlying56 rfl inf56 rfl rfl rfl rfl) ?_
      refine AL.sm rfl (sm_alloc (l := [.d (.p (.int .i64 0)), .d (.p (.int .i64 0)), .d (.p (.int .i64 0)), .d (.p (.int .i64 0))]) 6 inf56 rfl (by simp [S.clean, S.put, S.newObj, S.forget, V.has, V.hasL, junkIf, setL, V.cs, hasL_i, hasL_b, hasL_s, hasL_n, hasL_rep, hasL_flat, hasL_append, -List.map_set]) rfl rfl) ?_
      refine AL.st rfl (st_store_any inf56 rfl rfl rfl rfl rfl rfl rfl rfl (by first | decide | (simp; done) | (simp; omega)) rfl) ?_
      refine AL.nil ?_
      try simp only [thenS, S.put, S.newObj, setL, V.cs, List.length_cons, List.length_nil, List.take_succ_cons, List.take_zero, List.drop_succ_cons, List.drop_zero, List.drop_nil, List.nil_append, List.cons_append, List.append_nil, Nat.zero_add, Nat.reduceAdd, List.map_cons, List.map_nil, List.set_cons_zero, List.set_cons_succ]
      refine AW.region ?_
      refine AL.rp rfl rfl (rp_move rfl rfl) ?_
      refine AL.rp rfl rfl (rp_field_ref Try.underlying56 rfl rfl rfl inf3 (by decide) rfl) ?_
      refine AL.rd rfl rfl (rd_load_ref Try.underlying3 rfl rfl rfl rfl rfl rfl) ?_
      refine AL.inline [1, 12, 13, 14] (ts := [_, _, _, _]) (ars := [_]) rfl rfl ⟨Try.func126, rfl, rfl, rfl, rfl⟩ rfl rfl rfl (by simp) rfl fun kx => ?_
      try simp only [thenS, S.put, enum, List.nil_append, List.cons_append, List.append_nil, Nat.zero_add, Nat.reduceAdd]
      refine AW.seq ?_
      refine AW.region ?_
      refine AL.rd rfl rfl (rd_load_ref Try.underlying107 rfl rfl rfl rfl rfl rfl) ?_
      refine AL.rp rfl rfl (rp_move rfl rfl) ?_
      refine AL.rp rfl rfl (rp_index_own Try.underlying107 inf4 rfl rfl rfl rfl (by first | assumption | omega)) ?_
      refine AL.rd rfl rfl (rd_load_map Try.underlying4 rfl rfl rfl rfl rfl rfl (by assumption)) ?_
      refine AL.rp rfl rfl (rp_not rfl rfl) ?_
      refine AL.nil ?_
      try simp only [thenS, S.put]
      cases b with
      | true =>
       refine AW.condF rfl ?_
       refine AW.skip ?_
       try simp only [thenS]
       refine ⟨[], trivial, ?_⟩
       try simp only [S.put, tupOf, List.zip_cons_cons, List.zip_nil_left, List.drop_succ_cons, List.drop_zero, List.length_cons, List.length_nil, Nat.zero_add, Nat.reduceAdd]
       refine AL.nil ?_
       try simp only [thenS, S.put]
       refine AW.region ?_
       refine AL.rp rfl rfl (rp_add rfl rfl rfl (by first | omega | (dsimp only; omega))) ?_
       refine AL.rp rfl rfl (rp_move rfl rfl) ?_
       refine AL.nil ?_
       try simp only [thenS, S.put]
       refine ⟨_, ?_, ⟨i + 1, L, T, by omega, hμ', hfl, hqL, hLi, hnew L (fun _ h => h) hb, rfl⟩, ?_⟩
       ·exact (Less.of rfl (by repeat (first | exact trivial | refine ⟨⟨_, rfl, Wk.refl _⟩, ?_⟩ | refine ⟨⟨_, rfl, Wk.nil _ _⟩, ?_⟩ | refine ⟨⟨_, rfl, Wk.junk _⟩, ?_⟩)) (by repeat (first | exact trivial | refine ⟨rfl, ?_⟩)) rfl)
       ·simp [S.nat, fnd]; omega
      | false =>
       have hc := count_set L hb
       refine AW.condT rfl ?_
       refine AW.seq ?_
       refine AW.region ?_
       refine AL.rd rfl rfl (rd_load_ref Try.underlying107 rfl rfl rfl rfl rfl rfl) ?_
       refine AL.rp rfl rfl (rp_move rfl rfl) ?_
       refine AL.rp rfl rfl (rp_index_own Try.underlying107 inf4 rfl rfl rfl rfl (by first | assumption | omega)) ?_
       refine AL.st rfl (st_store_map2 inf4 rfl rfl rfl rfl rfl rfl rfl rfl (by first | assumption | omega)) ?_
       refine AL.nil ?_
       try simp only [thenS, S.put, S.newObj, setL, V.cs, List.length_cons, List.length_nil, List.take_succ_cons, List.take_zero, List.drop_succ_cons, List.drop_zero, List.drop_nil, List.nil_append, List.cons_append, List.append_nil, Nat.zero_add, Nat.reduceAdd, List.map_cons, List.map_nil, List.set_cons_zero, List.set_cons_succ]
       refine AW.region ?_
       refine AL.rd rfl rfl (rd_load_ref Try.underlying40 rfl rfl rfl rfl rfl rfl) ?_
       refine AL.rp rfl rfl (rp_move rfl rfl) ?_
       refine AL.sm rfl (sm_slice (vs := [(0, _)]) (zs := [.d (.p (.int .i64 0))]) 14 Try.underlying40 inf3 rfl rfl (by decide) (by decide) (by decide) rfl rfl rfl rfl (by simp [S.clean, S.put, S.newObj, S.forget, V.has, V.hasL, junkIf, setL, V.cs, hasL_i, hasL_b, hasL_s, hasL_n, hasL_rep, hasL_flat, hasL_append, -List.map_set]) rfl rfl) ?_
       refine AL.st rfl (st_appendF Try.underlying40 inf3 rfl (by decide) rfl rfl rfl rfl rfl rfl (by first | assumption | rfl | (simp; done)) (by simp [S.clean, S.put, S.newObj, S.forget, V.has, V.hasL, junkIf, setL, V.cs, hasL_i, hasL_b, hasL_s, hasL_n, hasL_rep, hasL_flat, hasL_append, -List.map_set]) rfl rfl rfl rfl rfl rfl rfl (by decide) (by omega) (by omega) rfl) ?_
       simp only [S.forget, S.put, S.newObj, junkIf, V.has, V.hasL, hasL_i, hasL_b, hasL_s, hasL_d, hasL_n, hasL_rep, hasL_flat, hasL_append, List.map_cons, List.map_nil, List.filter_cons, List.filter_nil, Nat.reduceBNe, Nat.reduceBEq, eq_self, bne_self_eq_false,  Bool.not_true, Bool.not_false, Bool.or_false, Bool.or_true, Bool.false_or, Bool.true_or, if_true, if_false, Bool.false_eq_true, ite_true, ite_false, ↓reduceIte, beq_self_eq_true, Nat.reduceEqDiff]
       (refine AL.st rfl (st_store inf40 rfl rfl rfl rfl rfl rfl rfl (by first | decide | (simp; done)) rfl) ?_)
       refine AL.nil ?_
       try simp only [thenS, S.put, S.newObj, setL, V.cs, List.length_cons, List.length_nil, List.take_succ_cons, List.take_zero, List.drop_succ_cons, List.drop_zero, List.drop_nil, List.nil_append, List.cons_append, List.append_nil, Nat.zero_add, Nat.reduceAdd, List.map_cons, List.map_nil, List.set_cons_zero, List.set_cons_succ]
       refine ⟨[], trivial, ?_⟩
       try simp only [S.put, tupOf, List.zip_cons_cons, List.zip_nil_left, List.drop_succ_cons, List.drop_zero, List.length_cons, List.length_nil, Nat.zero_add, Nat.reduceAdd]
       refine AL.nil ?_
       try simp only [thenS, S.put]
       refine AW.region ?_
       refine AL.rp rfl rfl (rp_add rfl rfl rfl (by first | omega | (dsimp only; omega))) ?_
       refine AL.rp rfl rfl (rp_move rfl rfl) ?_
       refine AL.nil ?_
       try simp only [thenS, S.put]
       refine ⟨_, ?_, ⟨i + 1, L.set p true, T ++ [p], by omega, by simp; omega, hfl.push hqL hedge hb, set_true_get hqL, fun z hz => set_true_get (hLi z hz), hnew _ (fun _ h => set_true_get h) (by rw [List.getElem?_set_self hpl]), rfl⟩, ?_⟩
       ·simp only [List.map_append, List.map_cons, List.map_nil, List.length_append, List.length_cons, List.length_nil, Nat.zero_add]
        exact (Less.of rfl (by repeat (first | exact trivial | refine ⟨⟨_, rfl, Wk.refl _⟩, ?_⟩ | refine ⟨⟨_, rfl, Wk.nil _ _⟩, ?_⟩ | refine ⟨⟨_, rfl, Wk.junk _⟩, ?_⟩)) (by repeat (first | exact trivial | refine ⟨rfl, ?_⟩)) rfl)
       ·simp [S.nat, fnd]; omega
     ·skip
      refine AW.seq ?_
      refine AW.region ?_
      (refine AL.rp rfl rfl (rp_lssF rfl rfl rfl (by first | assumption | omega | (dsimp only; omega))) ?_)
      refine AL.nil ?_
      try simp only [thenS, S.put]
      refine AW.seq ?_
      refine AW.condF rfl ?_
      refine AW.exit ?_
      try simp only [thenS, inBlockS, ↓reduceIte, Nat.reduceEqDiff]
      refine ⟨[], trivial, ?_⟩
      try simp only [S.put, tupOf, List.zip_cons_cons, List.zip_nil_left, List.drop_succ_cons, List.drop_zero, List.length_cons, List.length_nil, Nat.zero_add, Nat.reduceAdd]
      refine AL.nil ?_
      try simp only [thenS, S.put]
      refine ⟨_, _, ?_, ⟨L, T, ?_, Nat.le_refl _, by simp, hfl.settle (fun p he hp => ?_), hLi, rfl⟩, hμ'⟩
      ·exact (Less.of rfl (by repeat (first | exact trivial | refine ⟨⟨_, rfl, Wk.refl _⟩, ?_⟩ | refine ⟨⟨_, rfl, Wk.nil _ _⟩, ?_⟩ | refine ⟨⟨_, rfl, Wk.junk _⟩, ?_⟩)) (by repeat (first | exact trivial | refine ⟨rfl, ?_⟩)) rfl)
      ·omega
      ·obtain ⟨s, a, h4, h5, h6⟩ := he
       simp only at h4
       rw [hx] at h4
       simp only [Option.some.injEq] at h4
       subst h4
       obtain ⟨j, hj⟩ := List.getElem?_of_mem h5
       have hjl : j < la := by rw [← hla]; exact (List.getElem?_eq_some_iff.1 hj).1
       exact hdone j a p (by omega) hj h6
 ·obtain ⟨st, sts⟩ := m
  obtain ⟨e, he⟩ : ∃ e, machE ⟨st, sts⟩ = e := ⟨_, rfl⟩
  rw [he] at h0 ⊢
  refine Fn.intro (n := 25) ⟨Try.func87, rfl, rfl, rfl, rfl⟩ (by simp [V.pure, V.has, V.hasL]) (by simp) fun w0 out => ?_
  refine AW.seq ?_
  refine AW.region ?_
  refine AL.sm rfl (sm_box 1 rfl rfl rfl rfl rfl) ?_
  refine AL.rp rfl rfl (rp_assign rfl rfl) ?_
  refine AL.rp rfl rfl (rp_assign rfl rfl) ?_
  refine AL.nil ?_
  try simp only [thenS, S.put, S.newObj, setL, V.cs, List.length_cons, List.length_nil, List.take_succ_cons, List.take_zero, List.drop_succ_cons, List.drop_zero, List.drop_nil, List.nil_append, List.cons_append, List.append_nil, Nat.zero_add, Nat.reduceAdd, List.map_cons, List.map_nil, List.set_cons_zero, List.set_cons_succ, enum]
  refine AW.seq ?_
  refine AW.seq ?_
  refine AW.region ?_
  refine AL.rd rfl rfl (rd_loads_ref Try.underlying24 rfl inf24 rfl rfl rfl rfl rfl rfl) ?_
  refine AL.call (post := ?pc3) rfl (sm_call (args := [_]) ?hc3 ⟨Try.func48, rfl, rfl, rfl, rfl⟩ rfl rfl rfl rfl) ?_
  case hc3 => exact Fn.eqi (am_Check ⟨st, sts⟩) he
  rintro _ rfl -
  try dsimp only
  refine AL.rp rfl rfl (rp_assign rfl rfl) ?_
  refine AL.nil ?_
  try simp only [thenS, S.put, S.newObj, setL, V.cs, List.length_cons, List.length_nil, List.take_succ_cons, List.take_zero, List.drop_succ_cons, List.drop_zero, List.drop_nil, List.nil_append, List.cons_append, List.append_nil, Nat.zero_add, Nat.reduceAdd, List.map_cons, List.map_nil, List.set_cons_zero, List.set_cons_succ]
  refine AW.seq ?_
  refine AW.region ?_
  refine AL.rp rfl rfl (rp_move rfl rfl) ?_
  (refine AL.rp rfl rfl (rp_neqT rfl rfl rfl (by first | assumption | omega | (dsimp only; omega))) ?_)
  refine AL.nil ?_
  try simp only [thenS, S.put]
  refine AW.condT rfl ?_
  refine AW.seq ?_
  refine AW.region ?_
  refine AL.rp rfl rfl (rp_move rfl rfl) ?_
  refine AL.rp rfl rfl (rp_assign rfl rfl) ?_
  refine AL.rp rfl rfl (rp_assign rfl rfl) ?_
  refine AL.nil ?_
  try simp only [thenS, S.put]
  refine AW.ret ?_
  exact ⟨[_, _], ⟨rfl, rfl, trivial⟩, .inl ⟨h0, rfl⟩, by simp [tupOf, V.pure, V.has, V.hasL]⟩
theorem am_Ahead (m : Mach) : Fn Try.prog 87 [mV m] (fun v => v = .tup [.d (boolsD (aheadL m)), .i (machE m)]) := (am_Ahead0 m).wk (aheadL_wk m)
end Go.Proofs.Ytjbldphpkkmdpaa
