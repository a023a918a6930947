/- reach.Back answers the set of states that lead to an end. -/
import Derived.Test.YtjbldphpkkmdpaaAmCheck
import Derived.Test.YtjbldphpkkmdpaaAmBackOf
import Derived.Test.YtjbldphpkkmdpaaAmX
namespace Go.Proofs.Ytjbldphpkkmdpaa
open Go.RowKit
set_option linter.unusedSimpArgs false
set_option linter.unusedVariables false
set_option maxRecDepth 100000

def FB : Fam (List Nat) := ⟨3, 1, 8, fun _ => [], fun l => l.map fun x : Nat => [.p (.int .i64 (x : Int))]⟩
def encB (l : List Nat) : List D := [.sl 1 8 (l.map fun x : Nat => [.p (.int .i64 (x : Int))])]
set_option maxHeartbeats 1000000 in
theorem am_Back0 (m : Mach) : Fn Try.prog 88 [mV m] (fun v => (machE m ≠ 0 ∧ v = .tup [.nil, .i (machE m)]) ∨ (machE m = 0 ∧ v = .tup [.d (boolsD (backL m)), .i (machE m)])) := by
 refine Fn.mach m 0 rfl fun hb hal => ?_
 by_cases h0 : machE m = 0
 ·have hA : backL m = rchL (bInit m) (bEdge m) m.states.length := by unfold backL; rw [if_pos h0]
  have hin := b_in m
  obtain ⟨h60, h400, hst, hz⟩ := machE_zero h0
  obtain ⟨st, sts⟩ := m
  simp only at h60 h400 hst hz hb hal hA hin
  obtain ⟨n, hn⟩ : ∃ n, sts.length = n := ⟨_, rfl⟩
  rw [hn] at h60 hst hz hb hA hin
  have hal4 : ∀ x ∈ sts, x.arcs.length ≤ 400 := fun x hx => Nat.le_trans (arcN_mem sts x hx) h400
  refine Fn.intro (n := 62) ⟨Try.func88, rfl, rfl, rfl, rfl⟩ (by simp [V.pure, V.has, V.hasL]) (by simp) fun w0 out => ?_
  refine AW.seq ?_
  refine AW.region ?_
  refine AL.sm rfl (sm_box 1 rfl rfl rfl rfl rfl) ?_
  refine AL.rp rfl rfl (rp_assign rfl rfl) ?_
  refine AL.rp rfl rfl (rp_assign rfl rfl) ?_
  refine AL.nil ?_
  try simp only [thenS, S.put, S.newObj, setL, V.cs, List.length_cons, List.length_nil, List.take_succ_cons, List.take_zero, List.drop_succ_cons, List.drop_zero, List.drop_nil, List.nil_append, List.cons_append, List.append_nil, Nat.zero_add, Nat.reduceAdd, List.map_cons, List.map_nil, List.set_cons_zero, List.set_cons_succ, enum]
  refine AW.seq ?_
  refine AW.seq ?_
  refine AW.region ?_
  refine AL.rd rfl rfl (rd_loads_ref Try.underlying24 rfl inf24 rfl rfl rfl rfl rfl rfl) ?_
  refine AL.call (post := ?pc6) rfl (sm_call (args := [_]) ?hc6 ⟨Try.func48, rfl, rfl, rfl, rfl⟩ rfl rfl rfl rfl) ?_
  case hc6 => exact Fn.eqi (am_Check ⟨st, sts⟩) h0
  rintro _ rfl -
  try dsimp only
  refine AL.rp rfl rfl (rp_assign rfl rfl) ?_
  refine AL.nil ?_
  try simp only [thenS, S.put, S.newObj, setL, V.cs, List.length_cons, List.length_nil, List.take_succ_cons, List.take_zero, List.drop_succ_cons, List.drop_zero, List.drop_nil, List.nil_append, List.cons_append, List.append_nil, Nat.zero_add, Nat.reduceAdd, List.map_cons, List.map_nil, List.set_cons_zero, List.set_cons_succ]
  refine AW.seq ?_
  refine AW.region ?_
  refine AL.rp rfl rfl (rp_move rfl rfl) ?_
  (refine AL.rp rfl rfl (rp_neqF rfl rfl rfl (by first | assumption | omega | (dsimp only; omega))) ?_)
  refine AL.nil ?_
  try simp only [thenS, S.put, List.nil_append, List.cons_append]
  refine AW.condF rfl ?_
  refine AW.skip ?_
  try simp only [thenS, List.nil_append, List.cons_append]
  refine AW.seq ?_
  refine AW.region ?_
  refine AL.rp rfl rfl (rp_field_ref Try.underlying24 rfl rfl rfl inf22 (by decide) rfl) ?_
  refine AL.rd rfl rfl (rd_load_ref Try.underlying22 rfl rfl rfl rfl rfl rfl) ?_
  refine AL.rp rfl rfl (rp_len_map Try.underlying22 rfl rfl (by assumption)) ?_
  refine AL.sm rfl (sm_make1 19 Try.underlying70 inf40 rfl rfl rfl rfl (by omega) (by decide) rfl rfl) ?_
  refine AL.sm rfl (sm_alloc (l := [.d (.p (.slice none 0 0))]) 5 inf70 rfl (by first | rfl | (simp only [S.clean, S.put, S.newObj, List.all_cons, objs_clean_low, Nat.reduceLT]; simp [S.forget, V.has, V.hasL, junkIf, setL, V.cs, hasL_i, hasL_b, hasL_s, hasL_n, hasL_rep, hasL_flat, hasL_append, cells_hasL_low, has_ownV, hasL_frep, nb1, nb2, nb3, nb4, -List.map_set]; try omega)) rfl rfl) ?_
  (refine AL.st rfl (st_store inf70 rfl rfl rfl rfl rfl rfl rfl (by first | decide | (simp; done)) rfl) ?_)
  refine AL.nil ?_
  try simp only [thenS, S.put, S.newObj, setL, V.cs, List.length_cons, List.length_nil, List.take_succ_cons, List.take_zero, List.drop_succ_cons, List.drop_zero, List.drop_nil, List.nil_append, List.cons_append, List.append_nil, Nat.zero_add, Nat.reduceAdd, List.map_cons, List.map_nil, List.set_cons_zero, List.set_cons_succ]
  refine AW.seq ?_
  refine AW.region ?_
  refine AL.rp rfl rfl (rp_assign rfl rfl) ?_
  refine AL.nil ?_
  try simp only [thenS, S.put, List.nil_append, List.cons_append]
  refine AW.seq ?_
  refine AW.seq ?_
  refine AW.adopt 6 100 1 3 rfl (by simp [S.clean, V.has, V.hasL]) ?_
  refine AW.famAdopt FB 1000 19 (List.replicate n []) rfl rfl (by rw [flatMap_rep]; simp [FB]) (by intro x hx; rw [List.eq_of_mem_replicate hx]; rfl) rfl ?_
  refine AW.region ?_
  refine AL.rp rfl rfl (rp_field_ref Try.underlying24 rfl rfl rfl inf22 (by decide) rfl) ?_
  refine AL.rd rfl rfl (rd_load_ref Try.underlying22 rfl rfl rfl rfl rfl rfl) ?_
  refine AL.rp rfl rfl (rp_len_map Try.underlying22 rfl rfl (by assumption)) ?_
  refine AL.rp rfl rfl (rp_move rfl rfl) ?_
  refine AL.nil ?_
  try simp only [thenS, S.put, List.nil_append, List.cons_append]
  refine AW.block ?_
  refine AW.loop (fun s' => ∃ (k : Nat) (F : List Nat) (B : List (List Nat)), k ≤ n ∧ (∀ x, x ∈ F ↔ x < k ∧ bInit ⟨st, sts⟩ x) ∧ F.length ≤ k ∧ B.length = n ∧ (∀ (p : Nat) (l : List Nat), B[p]? = some l → l.length ≤ 1000 * k ∧ ∀ q, q ∈ l ↔ q < k ∧ bEdge ⟨st, sts⟩ p q) ∧
   s' = ⟨62, [(1, .ref 1 0), (5, .ref 5 0), (6, .own 100 1 F.length (decide (F.length = 0))), (21, .d (stsD sts)), (22, .i n), (23, .i k)], [(1, ⟨24, [.i st, .d (stsD sts)], false, 0⟩), (5, ⟨70, [.own 19 1 n false], false, 0⟩), (19, ⟨40, FB.cells 1000 B, false, 1⟩), (100, ⟨3, F.map V.n, decide (F.length = 0), 1⟩)] ++ FB.objs 1000 B, []⟩) (fun s' => n - s'.nat 23) ⟨_, ?_, 0, [], List.replicate n [], by omega, by simp, by simp, by simp, (fun p l h => by
    rw [List.getElem?_replicate] at h
    split at h
    ·simp at h; subst h; simp
    ·cases h), rfl⟩ ?_
  ·exact (Less.of rfl (by repeat (first | exact trivial | refine ⟨⟨_, rfl, Wk.refl _⟩, ?_⟩ | refine ⟨⟨_, rfl, Wk.nil _ _⟩, ?_⟩ | refine ⟨⟨_, rfl, Wk.junk _⟩, ?_⟩)) (by repeat (first | exact trivial | refine ⟨rfl, ?_⟩ | exact LH.fam | refine LH.skip (by decide) ?_)) rfl)
  rintro s' ⟨k, F, B, hk, hF, hFn, hBn, hB, rfl⟩
  by_cases hlk : k < n
  ·obtain ⟨x, hx⟩ := get_lt hn hlk
   obtain ⟨la, hla⟩ : ∃ n, x.arcs.length = n := ⟨_, rfl⟩
   have hla' := hal4 x (List.mem_of_getElem? hx)
   rw [hla] at hla'
   have hbI : bInit ⟨st, sts⟩ k ↔ x.fin ≠ 1000000001 := ⟨fun ⟨s, h1, h2⟩ => by simp only at h1; rw [hx] at h1; simp only [Option.some.injEq] at h1; subst h1; exact h2, fun h => ⟨x, hx, h⟩⟩
   refine AW.seq ?_
   refine AW.region ?_
   (refine AL.rp rfl rfl (rp_lssT rfl rfl rfl (by first | assumption | omega | (dsimp only; omega))) ?_)
   refine AL.nil ?_
   try simp only [thenS, S.put, List.nil_append, List.cons_append]
   refine AW.seq ?_
   refine AW.condT rfl ?_
   refine AW.skip ?_
   try simp only [thenS, List.nil_append, List.cons_append]
   refine AW.seq ?_
   refine AW.block ?_
   refine AW.seq ?_
   refine AW.region ?_
   refine AL.rp rfl rfl (rp_move rfl rfl) ?_
   refine AL.rp rfl rfl (rp_index_map Try.underlying22 inf52 rfl rfl rfl rfl (by assumption)) ?_
   refine AL.rd rfl rfl (rd_loads_ad Try.underlying52 rfl inf52 rfl rfl rfl rfl) ?_
   refine AL.sm rfl (sm_alloc (l := [.d (.p (.int .i64 0)), .d (.p (.slice none 0 0))]) 8 inf52 rfl (by first | rfl | (simp only [S.clean, S.put, S.newObj, List.all_cons, objs_clean_low, Nat.reduceLT]; simp [S.forget, V.has, V.hasL, junkIf, setL, V.cs, hasL_i, hasL_b, hasL_s, hasL_n, hasL_rep, hasL_flat, hasL_append, cells_hasL_low, has_ownV, hasL_frep, nb1, nb2, nb3, nb4, -List.map_set]; try omega)) rfl rfl) ?_
   refine AL.rp rfl rfl (rp_assign rfl rfl) ?_
   refine AL.st rfl (st_store_any inf52 rfl rfl rfl rfl rfl rfl rfl rfl (by first | decide | (simp; done) | (simp; omega)) rfl) ?_
   refine AL.nil ?_
   try simp only [thenS, S.put, S.newObj, setL, V.cs, List.length_cons, List.length_nil, List.take_succ_cons, List.take_zero, List.drop_succ_cons, List.drop_zero, List.drop_nil, List.nil_append, List.cons_append, List.append_nil, Nat.zero_add, Nat.reduceAdd, List.map_cons, List.map_nil, List.set_cons_zero, List.set_cons_succ]
   refine AW.seqc (fun s' => ∃ F : List Nat, (∀ x, x ∈ F ↔ x < k + 1 ∧ bInit ⟨st, sts⟩ x) ∧ F.length ≤ k + 1 ∧ s' = ⟨62, [(1, .ref 1 0), (5, .ref 5 0), (6, .own 100 1 F.length (decide (F.length = 0))), (7, .i k), (8, .ref 8 0), (21, .d (stsD sts)), (22, .i n), (23, .i k)], [(1, ⟨24, [.i st, .d (stsD sts)], false, 0⟩), (5, ⟨70, [.own 19 1 n false], false, 0⟩), (8, ⟨52, [.i x.fin, .d (arsD x.arcs)], false, 0⟩), (19, ⟨40, FB.cells 1000 B, false, 1⟩), (100, ⟨3, F.map V.n, decide (F.length = 0), 1⟩)] ++ FB.objs 1000 B, []⟩) ?_ ?_
   ·skip
    by_cases hfin : x.fin = 1000000001
    ·refine AW.seq ?_
     refine AW.region ?_
     refine AL.rp rfl rfl (rp_field_ref Try.underlying52 rfl rfl rfl inf3 (by decide) rfl) ?_
     refine AL.rd rfl rfl (rd_load_ref Try.underlying3 rfl rfl rfl rfl rfl rfl) ?_
     (refine AL.rp rfl rfl (rp_neqF rfl rfl rfl (by first | assumption | omega | (dsimp only; omega))) ?_)
     refine AL.nil ?_
     try simp only [thenS, S.put, List.nil_append, List.cons_append]
     refine AW.condF rfl ?_
     refine AW.skip ?_
     try simp only [thenS, List.nil_append, List.cons_append]
     refine ⟨_, ?_, F, fun y => ?_, by omega, rfl⟩
     ·exact (Less.of rfl (by repeat (first | exact trivial | refine ⟨⟨_, rfl, Wk.refl _⟩, ?_⟩ | refine ⟨⟨_, rfl, Wk.nil _ _⟩, ?_⟩ | refine ⟨⟨_, rfl, Wk.junk _⟩, ?_⟩)) (by repeat (first | exact trivial | refine ⟨rfl, ?_⟩ | exact LH.fam | refine LH.skip (by decide) ?_)) rfl)
     ·rw [hF y]
      constructor
      ·rintro ⟨h1, h2⟩; exact ⟨by omega, h2⟩
      ·rintro ⟨h1, h2⟩
       refine ⟨?_, h2⟩
       by_cases e : y = k
       ·subst e; exact absurd hfin (hbI.1 h2)
       ·omega
    ·skip
     refine AW.seq ?_
     refine AW.region ?_
     refine AL.rp rfl rfl (rp_field_ref Try.underlying52 rfl rfl rfl inf3 (by decide) rfl) ?_
     refine AL.rd rfl rfl (rd_load_ref Try.underlying3 rfl rfl rfl rfl rfl rfl) ?_
     (refine AL.rp rfl rfl (rp_neqT rfl rfl rfl (by first | assumption | omega | (dsimp only; omega))) ?_)
     refine AL.nil ?_
     try simp only [thenS, S.put, List.nil_append, List.cons_append]
     refine AW.condT rfl ?_
     refine AW.region ?_
     refine AL.rp rfl rfl (rp_move rfl rfl) ?_
     refine AL.rp rfl rfl (rp_move rfl rfl) ?_
     refine AL.sm rfl (sm_slice (vs := [(0, _)]) (zs := [.d (.p (.int .i64 0))]) 33 Try.underlying40 inf3 rfl rfl (by decide) (by decide) (by decide) rfl rfl rfl rfl (by first | rfl | (simp only [S.clean, S.put, S.newObj, List.all_cons, objs_clean_low, Nat.reduceLT]; simp [S.forget, V.has, V.hasL, junkIf, setL, V.cs, hasL_i, hasL_b, hasL_s, hasL_n, hasL_rep, hasL_flat, hasL_append, cells_hasL_low, has_ownV, hasL_frep, nb1, nb2, nb3, nb4, -List.map_set]; try omega)) rfl rfl) ?_
     refine AL.st rfl (st_appendF Try.underlying40 inf3 rfl (by decide) rfl rfl rfl rfl rfl rfl (by first | assumption | rfl | (simp; done)) (by first | rfl | (simp only [S.clean, S.put, S.newObj, List.all_cons, objs_clean_low, Nat.reduceLT]; simp [S.forget, V.has, V.hasL, junkIf, setL, V.cs, hasL_i, hasL_b, hasL_s, hasL_n, hasL_rep, hasL_flat, hasL_append, cells_hasL_low, has_ownV, hasL_frep, nb1, nb2, nb3, nb4, -List.map_set]; try omega)) rfl rfl rfl rfl rfl rfl rfl (by decide) (by omega) (by omega) rfl) ?_
     simp only [objs_filter_low, Fam.objs_forget, cells_hasL_low, has_ownV, nb3, nb4, Nat.reduceLT, S.forget, S.put, S.newObj, junkIf, V.has, V.hasL, hasL_i, hasL_b, hasL_s, hasL_d, hasL_n, hasL_rep, hasL_flat, hasL_append, List.map_cons, List.map_nil, List.filter_cons, List.filter_nil, Nat.reduceBNe, Nat.reduceBEq, eq_self, bne_self_eq_false,  Bool.not_true, Bool.not_false, Bool.or_false, Bool.or_true, Bool.false_or, Bool.true_or, if_true, if_false, Bool.false_eq_true, ite_true, ite_false, ↓reduceIte, beq_self_eq_true, Nat.reduceEqDiff]
     refine AL.rp rfl rfl (rp_assign rfl rfl) ?_
     refine AL.nil ?_
     try simp only [thenS, S.put, S.newObj, setL, V.cs, List.length_cons, List.length_nil, List.take_succ_cons, List.take_zero, List.drop_succ_cons, List.drop_zero, List.drop_nil, List.nil_append, List.cons_append, List.append_nil, Nat.zero_add, Nat.reduceAdd, List.map_cons, List.map_nil, List.set_cons_zero, List.set_cons_succ]
     refine ⟨_, ?_, F ++ [k], fun y => ?_, by simp; omega, rfl⟩
     ·simp only [List.map_append, List.map_cons, List.map_nil, List.length_append, List.length_cons, List.length_nil, Nat.zero_add]
      exact (Less.of rfl (by repeat (first | exact trivial | refine ⟨⟨_, rfl, Wk.refl _⟩, ?_⟩ | refine ⟨⟨_, rfl, Wk.nil _ _⟩, ?_⟩ | refine ⟨⟨_, rfl, Wk.junk _⟩, ?_⟩)) (by repeat (first | exact trivial | refine ⟨rfl, ?_⟩ | exact LH.fam | refine LH.skip (by decide) ?_)) rfl)
     ·simp only [List.mem_append, List.mem_singleton, hF y]
      constructor
      ·rintro (⟨h1, h2⟩ | rfl)
       ·exact ⟨by omega, h2⟩
       ·exact ⟨by omega, hbI.2 hfin⟩
      ·rintro ⟨h1, h2⟩
       by_cases e : y = k
       ·exact .inr e
       ·exact .inl ⟨by omega, h2⟩
   ·rintro s' ⟨F, hF, hFn, rfl⟩
    refine AW.seq ?_
    refine AW.region ?_
    refine AL.rp rfl rfl (rp_field_ref Try.underlying52 rfl rfl rfl inf50 (by decide) rfl) ?_
    refine AL.rd rfl rfl (rd_load_ref Try.underlying50 rfl rfl rfl rfl rfl rfl) ?_
    refine AL.rp rfl rfl (rp_len_map Try.underlying50 rfl rfl (by assumption)) ?_
    refine AL.rp rfl rfl (rp_move rfl rfl) ?_
    refine AL.nil ?_
    try simp only [thenS, S.put, List.nil_append, List.cons_append]
    refine AW.block ?_
    refine AW.loop (fun s' => ∃ (i : Nat) (B : List (List Nat)), i ≤ la ∧ B.length = n ∧ (∀ (p : Nat) (l : List Nat), B[p]? = some l → l.length ≤ 1000 * k + i ∧ ∀ q, q ∈ l ↔ (q < k ∧ bEdge ⟨st, sts⟩ p q) ∨ (q = k ∧ ∃ (j : Nat) (a : Ar), j < i ∧ x.arcs[j]? = some a ∧ a.t = (p : Int))) ∧
     s' = ⟨62, [(1, .ref 1 0), (5, .ref 5 0), (6, .own 100 1 F.length (decide (F.length = 0))), (7, .i k), (21, .d (stsD sts)), (22, .i n), (23, .i k), (36, .d (arsD x.arcs)), (37, .i la), (38, .i i)], [(1, ⟨24, [.i st, .d (stsD sts)], false, 0⟩), (5, ⟨70, [.own 19 1 n false], false, 0⟩), (19, ⟨40, FB.cells 1000 B, false, 1⟩), (100, ⟨3, F.map V.n, decide (F.length = 0), 1⟩)] ++ FB.objs 1000 B, []⟩) (fun s' => la - s'.nat 38) ⟨_, ?_, 0, B, by omega, hBn, (fun p l h => ⟨by have := (hB p l h).1; omega, fun q => by rw [(hB p l h).2 q]; simp⟩), rfl⟩ ?_
    ·exact (Less.of rfl (by repeat (first | exact trivial | refine ⟨⟨_, rfl, Wk.refl _⟩, ?_⟩ | refine ⟨⟨_, rfl, Wk.nil _ _⟩, ?_⟩ | refine ⟨⟨_, rfl, Wk.junk _⟩, ?_⟩)) (by repeat (first | exact trivial | refine ⟨rfl, ?_⟩ | exact LH.fam | refine LH.skip (by decide) ?_)) rfl)
    rintro s' ⟨i, B, hi, hBn, hB, rfl⟩
    by_cases hil : i < la
    ·obtain ⟨y, hy⟩ := get_lt hla hil
     have hyt := (hz x (List.mem_of_getElem? hx)).2 y (List.mem_of_getElem? hy)
     obtain ⟨yi, yo, yw, yt⟩ := y
     simp only [arOk, decide_eq_true_eq] at hyt
     obtain ⟨p, rfl⟩ : ∃ p : Nat, yt = p := ⟨yt.toNat, by omega⟩
     have hpn : p < n := by omega
     obtain ⟨l0, hl0⟩ := get_lt hBn hpn
     have hlen0 : (FB.it l0).length ≤ 1000000 := by have := (hB p l0 hl0).1; simp [FB]; omega
     have hpB : p < B.length := by omega
     have hset : (B.set p (l0 ++ [k]))[p]? = some (l0 ++ [k]) := by simp [List.getElem?_set, hpB]
     refine AW.seq ?_
     refine AW.region ?_
     (refine AL.rp rfl rfl (rp_lssT rfl rfl rfl (by first | assumption | omega | (dsimp only; omega))) ?_)
     refine AL.nil ?_
     try simp only [thenS, S.put, List.nil_append, List.cons_append]
     refine AW.seq ?_
     refine AW.condT rfl ?_
     refine AW.skip ?_
     try simp only [thenS, List.nil_append, List.cons_append]
     refine AW.seq ?_
     refine AW.block ?_
     refine AW.seq ?_
     refine AW.region ?_
     refine AL.rp rfl rfl (rp_index_map Try.underlying50 inf56 rfl rfl rfl rfl (by assumption)) ?_
     refine AL.rd rfl rfl (rd_loads_ad Try.underlying56 rfl inf56 rfl rfl rfl rfl) ?_
     refine AL.sm rfl (sm_alloc (l := [.d (.p (.int .i64 0)), .d (.p (.int .i64 0)), .d (.p (.int .i64 0)), .d (.p (.int .i64 0))]) 10 inf56 rfl (by first | rfl | (simp only [S.clean, S.put, S.newObj, List.all_cons, objs_clean_low, Nat.reduceLT]; simp [S.forget, V.has, V.hasL, junkIf, setL, V.cs, hasL_i, hasL_b, hasL_s, hasL_n, hasL_rep, hasL_flat, hasL_append, cells_hasL_low, has_ownV, hasL_frep, nb1, nb2, nb3, nb4, -List.map_set]; try omega)) rfl rfl) ?_
     refine AL.st rfl (st_store_any inf56 rfl rfl rfl rfl rfl rfl rfl rfl (by first | decide | (simp; done) | (simp; omega)) rfl) ?_
     refine AL.nil ?_
     try simp only [thenS, S.put, S.newObj, setL, V.cs, List.length_cons, List.length_nil, List.take_succ_cons, List.take_zero, List.drop_succ_cons, List.drop_zero, List.drop_nil, List.nil_append, List.cons_append, List.append_nil, Nat.zero_add, Nat.reduceAdd, List.map_cons, List.map_nil, List.set_cons_zero, List.set_cons_succ]
     refine AW.drawX (1000 + p) [(0, true), (1, true), (2, true), (3, true), (4, true), (5, true), (6, true), (7, true), (8, true), (9, false), (10, false), (11, false), (12, false)] (fun i => !([11, 12] : List Nat).contains i) 13 (by kernel_rfl) (by kernel_rfl) rfl (by kernel_rfl) ?_
     refine AE1.rx rfl rfl rfl (fun _ _ h => h) (rx_load_ref Try.underlying70 rfl rfl rfl rfl rfl rfl (by first | decide | omega)) ?_
     refine AE1.rp rfl rfl rfl (fun _ _ h => h) (rp_field_ref Try.underlying56 rfl rfl rfl inf3 (by decide) rfl) ?_
     refine AE1.rx rfl rfl rfl (fun _ _ h => h) (rx_load_ref Try.underlying3 rfl rfl rfl rfl rfl rfl (by first | decide | omega)) ?_
     refine AE1.rx rfl rfl rfl (fun _ _ h => h) (rx_load_ref Try.underlying70 rfl rfl rfl rfl rfl rfl (by first | decide | omega)) ?_
     refine AE1.rp rfl rfl rfl (fun _ _ h => h) (rp_field_ref Try.underlying56 rfl rfl rfl inf3 (by decide) rfl) ?_
     refine AE1.rx rfl rfl rfl (fun _ _ h => h) (rx_load_ref Try.underlying3 rfl rfl rfl rfl rfl rfl (by first | decide | omega)) ?_
     refine AE1.rp rfl rfl rfl (fun _ _ h => h) (rp_index_own Try.underlying70 inf40 rfl rfl rfl rfl (by first | assumption | omega)) ?_
     refine AE1.rx rfl rfl rfl (fun _ _ h => h) (rx_load_fam (m := 0) Try.underlying40 rfl rfl rfl rfl rfl rfl (fun _ => rfl) rfl (by assumption) (by first | decide | omega)) ?_
     refine AE1.rp rfl rfl rfl (fun _ _ h => h) (rp_move rfl rfl) ?_
     refine AE1.go ?_
     refine AE2.sm rfl rfl (sm_sliceG (vs := [(0, _)]) (zs := [.d (.p (.int .i64 0))]) 51 Try.underlying40 inf3 rfl rfl (by decide) (by decide) (by decide) rfl rfl rfl rfl (by first | rfl | (simp only [S.clean, S.put, S.newObj, List.all_cons, objs_clean_low, Nat.reduceLT]; simp [S.forget, V.has, V.hasL, junkIf, setL, V.cs, hasL_i, hasL_b, hasL_s, hasL_n, hasL_rep, hasL_flat, hasL_append, cells_hasL_low, has_ownV, hasL_frep, nb1, nb2, nb3, nb4, -List.map_set]; try omega)) rfl rfl) (by first | decide | omega) ?_
     (refine AE2.st rfl rfl (st_append_famX (lits := [_, _, _, _, _, _, _]) (x' := l0 ++ [k]) (m := 0) (newrow := [.p (.int .i64 (k : Int))]) (rb := 19) Try.underlying40 inf3 rfl (by decide) (by decide) rfl rfl rfl (by assumption) (fun _ => rfl) (by intro x l hl; simp [FB] at hl; first | (obtain ⟨_, _, rfl⟩ := hl; rfl) | (obtain ⟨_, _, _, rfl⟩ := hl; rfl) | (rcases hl with ⟨_, _, rfl⟩ <;> rfl)) rfl rfl rfl rfl rfl rfl rfl rfl (by simp [FB]) rfl rfl (by simp [V.hasL, V.has, nb1, nb2, nb3, nb4, setL, V.cs, hasL_i, hasL_b, hasL_s, hasL_n, hasL_rep, hasL_flat, hasL_append, -List.map_set]; try omega) (by first | assumption | (simp [FB]; omega))) ?_)
     try simp only [S.put, S.newObj, List.map_cons, List.map_nil, junkHi, V.low, V.lowL, low_ownV, Nat.reduceLT, decide_true, decide_false, Bool.and_true, Bool.true_and, if_true, if_false, Bool.false_eq_true, ite_true, ite_false, ↓reduceIte, List.cons_append, List.nil_append]
     refine AD3.rp1 rfl rfl rfl rfl (rp_index_own Try.underlying70 inf40 rfl rfl rfl rfl (by first | assumption | omega)) ?_
     (refine AD3.st rfl rfl rfl (st_store_fam (m := 0) inf40 rfl rfl rfl rfl rfl rfl (fun _ => rfl) rfl rfl (by first | assumption | (simp; omega))) ?_)
     refine AD3.nil ?_
     try simp only [thenS, S.put, S.newObj, setL, V.cs, List.length_cons, List.length_nil, List.take_succ_cons, List.take_zero, List.drop_succ_cons, List.drop_zero, List.drop_nil, List.nil_append, List.cons_append, List.append_nil, Nat.zero_add, Nat.reduceAdd, List.map_cons, List.map_nil, List.set_cons_zero, List.set_cons_succ]
     refine AW.region ?_
     refine AL.rp rfl rfl (rp_add rfl rfl rfl (by first | omega | (dsimp only; omega))) ?_
     refine AL.rp rfl rfl (rp_move rfl rfl) ?_
     refine AL.nil ?_
     try simp only [thenS, S.put, List.nil_append, List.cons_append]
     refine ⟨_, ?_, ⟨i + 1, B.set p (l0 ++ [k]), by omega, by simpa using hBn, ?_, rfl⟩, ?_⟩
     ·exact (Less.of rfl (by repeat (first | exact trivial | refine ⟨⟨_, rfl, Wk.refl _⟩, ?_⟩ | refine ⟨⟨_, rfl, Wk.nil _ _⟩, ?_⟩ | refine ⟨⟨_, rfl, Wk.junk _⟩, ?_⟩)) (by repeat (first | exact trivial | refine ⟨rfl, ?_⟩ | exact LH.fam | refine LH.skip (by decide) ?_)) rfl)
     ·intro r l hl
      rw [List.getElem?_set] at hl
      have hstep : (∃ (j : Nat) (a : Ar), j < i + 1 ∧ x.arcs[j]? = some a ∧ a.t = (r : Int)) ↔ (∃ (j : Nat) (a : Ar), j < i ∧ x.arcs[j]? = some a ∧ a.t = (r : Int)) ∨ p = r := by
       constructor
       ·rintro ⟨j, a, h1, h2, h3⟩
        by_cases e : j = i
        ·subst e
         rw [hy] at h2
         simp only [Option.some.injEq] at h2
         subst h2
         simp only at h3
         exact .inr (by omega)
        ·exact .inl ⟨j, a, by omega, h2, h3⟩
       ·rintro (⟨j, a, h1, h2, h3⟩ | rfl)
        ·exact ⟨j, a, by omega, h2, h3⟩
        ·exact ⟨i, _, by omega, hy, rfl⟩
      split at hl
      ·rename_i e
       subst e
       simp only [Option.some.injEq] at hl
       subst hl
       refine ⟨by have := (hB p l0 hl0).1; simp; omega, fun q => ?_⟩
       rw [List.mem_append, (hB p l0 hl0).2 q, hstep]
       simp only [List.mem_singleton]
       constructor
       ·rintro ((h | h) | h)
        ·exact .inl h
        ·exact .inr ⟨h.1, .inl h.2⟩
        ·exact .inr ⟨h, .inr (by simp)⟩
       ·rintro (h | ⟨h1, h2 | _⟩)
        ·exact .inl (.inl h)
        ·exact .inl (.inr ⟨h1, h2⟩)
        ·exact .inr h1
      ·rename_i e
       refine ⟨by have := (hB r l hl).1; omega, fun q => ?_⟩
       rw [(hB r l hl).2 q, hstep]
       constructor
       ·rintro (h | h)
        ·exact .inl h
        ·exact .inr ⟨h.1, .inl h.2⟩
       ·rintro (h | ⟨h1, h2 | h2⟩)
        ·exact .inl h
        ·exact .inr ⟨h1, h2⟩
        ·exact absurd h2 e
     ·simp [S.nat, fnd]; omega
    ·skip
     refine AW.seq ?_
     refine AW.region ?_
     (refine AL.rp rfl rfl (rp_lssF rfl rfl rfl (by first | assumption | omega | (dsimp only; omega))) ?_)
     refine AL.nil ?_
     try simp only [thenS, S.put, List.nil_append, List.cons_append]
     refine AW.seq ?_
     refine AW.condF rfl ?_
     refine AW.exit ?_
     try simp only [thenS, inBlockS, ↓reduceIte, Nat.reduceEqDiff, List.nil_append, List.cons_append]
     refine AW.region ?_
     refine AL.rp rfl rfl (rp_add rfl rfl rfl (by first | omega | (dsimp only; omega))) ?_
     refine AL.rp rfl rfl (rp_move rfl rfl) ?_
     refine AL.nil ?_
     try simp only [thenS, S.put, List.nil_append, List.cons_append]
     refine ⟨_, ?_, ⟨k + 1, F, B, by omega, hF, hFn, hBn, fun p l hl => ⟨by have := (hB p l hl).1; omega, fun q => ?_⟩, rfl⟩, ?_⟩
     ·exact (Less.of rfl (by repeat (first | exact trivial | refine ⟨⟨_, rfl, Wk.refl _⟩, ?_⟩ | refine ⟨⟨_, rfl, Wk.nil _ _⟩, ?_⟩ | refine ⟨⟨_, rfl, Wk.junk _⟩, ?_⟩)) (by repeat (first | exact trivial | refine ⟨rfl, ?_⟩ | exact LH.fam | refine LH.skip (by decide) ?_)) rfl)
     ·rw [(hB p l hl).2 q]
      constructor
      ·rintro (⟨h1, h2⟩ | ⟨rfl, j, a, h1, h2, h3⟩)
       ·exact ⟨by omega, h2⟩
       ·exact ⟨by omega, x, a, hx, List.mem_of_getElem? h2, h3⟩
      ·rintro ⟨h1, h2⟩
       by_cases e : q = k
       ·subst e
        obtain ⟨s, a, h4, h5, h6⟩ := h2
        simp only at h4
        rw [hx] at h4
        simp only [Option.some.injEq] at h4
        subst h4
        obtain ⟨j, hj⟩ := List.getElem?_of_mem h5
        exact .inr ⟨rfl, j, a, by have := (List.getElem?_eq_some_iff.1 hj).1; omega, hj, h6⟩
       ·exact .inl ⟨by omega, h2⟩
     ·simp [S.nat, fnd]; omega
  ·obtain rfl : k = n := by omega
   have hFI : ∀ x, x ∈ F ↔ bInit ⟨st, sts⟩ x := fun x => by
    rw [hF x]
    exact ⟨fun h => h.2, fun h => ⟨by have := hin x (.init x h); simpa [hn] using this, h⟩⟩
   obtain ⟨f, hf⟩ : ∃ f, decide (F.length = 0) = f := ⟨_, rfl⟩
   rw [hf]
   have hFf : f = true → F = [] := by intro h; subst h; simpa using hf
   refine AW.seq ?_
   refine AW.region ?_
   (refine AL.rp rfl rfl (rp_lssF rfl rfl rfl (by first | assumption | omega | (dsimp only; omega))) ?_)
   refine AL.nil ?_
   try simp only [thenS, S.put, List.nil_append, List.cons_append]
   refine AW.seq ?_
   refine AW.condF rfl ?_
   refine AW.exit ?_
   try simp only [thenS, inBlockS, ↓reduceIte, Nat.reduceEqDiff, List.nil_append, List.cons_append]
   refine AW.seq ?_
   refine AW.less (s' := ⟨62, [(1, .ref 1 0), (5, .ref 5 0), (6, .own 100 1 F.length f)], [(1, ⟨24, [.i st, .d (stsD sts)], false, 0⟩), (5, ⟨70, [.own 19 1 k false], false, 0⟩), (19, ⟨40, FB.cells 1000 B, false, 1⟩), (100, ⟨3, F.map V.n, f, 1⟩)] ++ FB.objs 1000 B, []⟩) (Less.of rfl (by repeat (first | exact trivial | refine ⟨⟨_, rfl, Wk.refl _⟩, ?_⟩ | refine ⟨⟨_, rfl, Wk.nil _ _⟩, ?_⟩ | refine ⟨⟨_, rfl, Wk.junk _⟩, ?_⟩)) (by repeat (first | exact trivial | refine ⟨rfl, ?_⟩ | exact LH.fam | refine LH.skip (by decide) ?_)) rfl) ?_
   refine AW.famFreeze (F := FB) (m := 0) (base := 1000) (L := B) [_, _, _, _] 19 rfl rfl rfl rfl (fun _ => rfl) (by intro x l hl; simp [FB] at hl; obtain ⟨_, _, rfl⟩ := hl; rfl) ?_ rfl (by simp [V.hasL, V.has]; intro r hr; omega) rfl rfl ?_
   ·intro l hl
    obtain ⟨p, hp⟩ := List.getElem?_of_mem hl
    have := (hB p l hp).1
    simp [FB]; omega
   refine AW.freezeH 5 0 24 (B.map FB.data) rfl rfl rfl (by decide) rfl rfl (by simpa using hBn) (by omega) (rowsF (sz := 1) (fun _ => rfl) rfl) ?_
   refine AW.less (s' := ⟨62, [(1, .ref 1 0), (5, .ref 5 0), (6, .own 100 1 F.length f)], [(1, ⟨24, [.i st, .d (stsD sts)], false, 0⟩), (5, ⟨70, [.d (.sl 1 24 (B.map encB))], false, 0⟩), (100, ⟨3, F.map V.n, f, 1⟩)], []⟩) (Less.of rfl (by repeat (first | exact trivial | refine ⟨⟨_, rfl, Wk.refl _⟩, ?_⟩ | refine ⟨⟨_, rfl, Wk.nil _ _⟩, ?_⟩ | refine ⟨⟨_, rfl, Wk.junk _⟩, ?_⟩)) (by repeat (first | exact trivial | refine ⟨rfl, ?_⟩ | exact LH.fam | refine LH.skip (by decide) ?_)) rfl) ?_
   obtain ⟨n, rfl⟩ : ∃ n, n = k := ⟨_, rfl⟩
   refine AW.region ?_
   refine AL.rp rfl rfl (rp_field_ref Try.underlying24 rfl rfl rfl inf22 (by decide) rfl) ?_
   refine AL.rd rfl rfl (rd_load_ref Try.underlying22 rfl rfl rfl rfl rfl rfl) ?_
   refine AL.rp rfl rfl (rp_len_map Try.underlying22 rfl rfl (by assumption)) ?_
   refine AL.rp rfl rfl (rp_move rfl rfl) ?_
   refine AL.rp rfl rfl (rp_func (vs := [_]) rfl rfl) ?_
   refine AL.inline [] (ts := []) (ars := [_, _, _]) rfl rfl ⟨Try.func115, rfl, rfl, rfl, rfl⟩ rfl rfl rfl (by simp) rfl fun kx => ?_
   try simp only [thenS, S.put, enum, List.nil_append, List.cons_append, List.append_nil, Nat.zero_add, Nat.reduceAdd]
   refine AW.seq ?_
   refine AW.region ?_
   refine AL.rp rfl rfl (rp_assign rfl rfl) ?_
   refine AL.nil ?_
   try simp only [thenS, S.put, List.nil_append, List.cons_append]
   refine AW.seq ?_
   refine AW.region ?_
   refine AL.rp rfl rfl (rp_move rfl rfl) ?_
   refine AL.sm rfl (sm_make_map 13 V.b (false) Try.underlying107 inf4 rfl rfl rfl rfl rfl (by omega) (by decide) (by first | rfl | (simp only [S.clean, S.put, S.newObj, List.all_cons, objs_clean_low, Nat.reduceLT]; simp [S.forget, V.has, V.hasL, junkIf, setL, V.cs, hasL_i, hasL_b, hasL_s, hasL_n, hasL_rep, hasL_flat, hasL_append, cells_hasL_low, has_ownV, hasL_frep, nb1, nb2, nb3, nb4, -List.map_set]; try omega)) rfl) ?_
   refine AL.sm rfl (sm_alloc (l := [.d (.p (.slice none 0 0))]) 7 inf107 rfl (by first | rfl | (simp only [S.clean, S.put, S.newObj, List.all_cons, objs_clean_low, Nat.reduceLT]; simp [S.forget, V.has, V.hasL, junkIf, setL, V.cs, hasL_i, hasL_b, hasL_s, hasL_n, hasL_rep, hasL_flat, hasL_append, cells_hasL_low, has_ownV, hasL_frep, nb1, nb2, nb3, nb4, -List.map_set]; try omega)) rfl rfl) ?_
   (refine AL.st rfl (st_store inf107 rfl rfl rfl rfl rfl rfl rfl (by first | decide | (simp; done)) rfl) ?_)
   refine AL.nil ?_
   try simp only [thenS, S.put, S.newObj, setL, V.cs, List.length_cons, List.length_nil, List.take_succ_cons, List.take_zero, List.drop_succ_cons, List.drop_zero, List.drop_nil, List.nil_append, List.cons_append, List.append_nil, Nat.zero_add, Nat.reduceAdd, List.map_cons, List.map_nil, List.set_cons_zero, List.set_cons_succ]
   refine AW.seq ?_
   refine AW.region ?_
   refine AL.rp rfl rfl (rp_move rfl rfl) ?_
   refine AL.sm rfl (sm_alloc (l := [.d (.p (.slice none 0 0))]) 8 inf40 rfl (by first | rfl | (simp only [S.clean, S.put, S.newObj, List.all_cons, objs_clean_low, Nat.reduceLT]; simp [S.forget, V.has, V.hasL, junkIf, setL, V.cs, hasL_i, hasL_b, hasL_s, hasL_n, hasL_rep, hasL_flat, hasL_append, cells_hasL_low, has_ownV, hasL_frep, nb1, nb2, nb3, nb4, -List.map_set]; try omega)) rfl rfl) ?_
   (refine AL.st rfl (st_store inf40 rfl rfl rfl rfl rfl rfl rfl (by first | decide | (simp; done)) rfl) ?_)
   refine AL.nil ?_
   try simp only [thenS, S.put, S.newObj, setL, V.cs, List.length_cons, List.length_nil, List.take_succ_cons, List.take_zero, List.drop_succ_cons, List.drop_zero, List.drop_nil, List.nil_append, List.cons_append, List.append_nil, Nat.zero_add, Nat.reduceAdd, List.map_cons, List.map_nil, List.set_cons_zero, List.set_cons_succ]
   refine AW.seq ?_
   refine AW.seq ?_
   refine AW.region ?_
   refine AL.rp rfl rfl (rp_move rfl rfl) ?_
   refine AL.rp rfl rfl (rp_len_own Try.underlying40 rfl rfl) ?_
   refine AL.rp rfl rfl (rp_move rfl rfl) ?_
   refine AL.nil ?_
   try simp only [thenS, S.put, List.nil_append, List.cons_append]
   refine AW.block ?_
   refine AW.loop (fun s' => ∃ (k : Nat) (L : List Bool), k ≤ F.length ∧ L.length = n ∧ (∀ x, L[x]? = some true ↔ x ∈ F.take k) ∧ s' = ⟨44, [(2, .fn 117 [.ref 5 0]), (7, .ref 7 0), (8, .ref 8 0), (15, .own 100 1 F.length f), (16, .i F.length), (17, .i k)], [(1, ⟨24, [.i st, .d (stsD sts)], false, 0⟩), (5, ⟨70, [.d (.sl 1 24 (B.map encB))], false, 0⟩), (100, ⟨3, F.map V.n, f, 1⟩), (7, ⟨107, [.own 13 1 n false], false, 0⟩), (8, ⟨40, [.own 100 1 F.length f], false, 0⟩), (13, ⟨4, L.map V.b, false, 1⟩)], []⟩) (fun s' => F.length - s'.nat 17) ⟨_, ?_, 0, List.replicate n false, by omega, by simp, by simp [List.getElem?_replicate], rfl⟩ ?_
   ·exact (Less.of rfl (by repeat (first | exact trivial | refine ⟨⟨_, rfl, Wk.refl _⟩, ?_⟩ | refine ⟨⟨_, rfl, Wk.nil _ _⟩, ?_⟩ | refine ⟨⟨_, rfl, Wk.junk _⟩, ?_⟩)) (by repeat (first | exact trivial | refine ⟨rfl, ?_⟩ | exact LH.fam | refine LH.skip (by decide) ?_)) rfl)
   rintro s' ⟨k, L, hk, hL, hLF, rfl⟩
   by_cases hlt : k < F.length
   ·obtain ⟨q, hq⟩ := get_lt rfl hlt
    obtain rfl : f = false := by cases f with | false => rfl | true => rw [hFf rfl] at hlt; simp at hlt
    have hqn : q < n := hin q (.init q ((hFI q).1 (List.mem_of_getElem? hq)))
    have hqL : q < L.length := by omega
    refine AW.seq ?_
    refine AW.region ?_
    (refine AL.rp rfl rfl (rp_lssT rfl rfl rfl (by first | assumption | omega | (dsimp only; omega))) ?_)
    refine AL.nil ?_
    try simp only [thenS, S.put, List.nil_append, List.cons_append]
    refine AW.seq ?_
    refine AW.condT rfl ?_
    refine AW.skip ?_
    try simp only [thenS, List.nil_append, List.cons_append]
    refine AW.seq ?_
    refine AW.block ?_
    refine AW.seq ?_
    refine AW.region ?_
    refine AL.rp rfl rfl (rp_index_own Try.underlying40 inf3 rfl rfl rfl rfl (by first | assumption | omega)) ?_
    refine AL.rd rfl rfl (rd_load_map Try.underlying3 rfl rfl rfl rfl rfl rfl (by assumption)) ?_
    refine AL.rp rfl rfl (rp_assign rfl rfl) ?_
    refine AL.nil ?_
    try simp only [thenS, S.put, List.nil_append, List.cons_append]
    refine AW.region ?_
    refine AL.rd rfl rfl (rd_load_ref Try.underlying107 rfl rfl rfl rfl rfl rfl) ?_
    refine AL.rp rfl rfl (rp_move rfl rfl) ?_
    refine AL.rp rfl rfl (rp_index_own Try.underlying107 inf4 rfl rfl rfl rfl (by first | assumption | omega)) ?_
    refine AL.st rfl (st_store_map2 inf4 rfl rfl rfl rfl rfl rfl rfl rfl (by first | assumption | omega)) ?_
    refine AL.nil ?_
    try simp only [thenS, S.put, S.newObj, setL, V.cs, List.length_cons, List.length_nil, List.take_succ_cons, List.take_zero, List.drop_succ_cons, List.drop_zero, List.drop_nil, List.nil_append, List.cons_append, List.append_nil, Nat.zero_add, Nat.reduceAdd, List.map_cons, List.map_nil, List.set_cons_zero, List.set_cons_succ]
    refine AW.region ?_
    refine AL.rp rfl rfl (rp_add rfl rfl rfl (by first | omega | (dsimp only; omega))) ?_
    refine AL.rp rfl rfl (rp_move rfl rfl) ?_
    refine AL.nil ?_
    try simp only [thenS, S.put, List.nil_append, List.cons_append]
    refine ⟨_, ?_, ⟨k + 1, L.set q true, by omega, by simpa using hL, fun x => ?_, rfl⟩, ?_⟩
    ·exact (Less.of rfl (by repeat (first | exact trivial | refine ⟨⟨_, rfl, Wk.refl _⟩, ?_⟩ | refine ⟨⟨_, rfl, Wk.nil _ _⟩, ?_⟩ | refine ⟨⟨_, rfl, Wk.junk _⟩, ?_⟩)) (by repeat (first | exact trivial | refine ⟨rfl, ?_⟩ | exact LH.fam | refine LH.skip (by decide) ?_)) rfl)
    ·rw [List.getElem?_set, take_snoc hq, List.mem_append, ← hLF x]
     by_cases e : q = x
     ·subst e; simp [hqL]
     ·simp [e, Ne.symm e]
    ·simp [S.nat, fnd]; omega
   ·rw [List.take_of_length_le (by omega)] at hLF
    have hfld : Fld (bInit ⟨st, sts⟩) (bEdge ⟨st, sts⟩) n (fun _ => False) L F := Fld.start hL hLF (fun x hx => (hFI x).1 hx)
    have hLi : ∀ x, bInit ⟨st, sts⟩ x → L[x]? = some true := fun x hx => (hLF x).2 ((hFI x).2 hx)
    clear hLF
    refine AW.seq ?_
    refine AW.region ?_
    (refine AL.rp rfl rfl (rp_lssF rfl rfl rfl (by first | assumption | omega | (dsimp only; omega))) ?_)
    refine AL.nil ?_
    try simp only [thenS, S.put, List.nil_append, List.cons_append]
    refine AW.seq ?_
    refine AW.condF rfl ?_
    refine AW.exit ?_
    try simp only [thenS, inBlockS, ↓reduceIte, Nat.reduceEqDiff, List.nil_append, List.cons_append]
    refine AW.seq ?_
    refine AW.block ?_
    refine AW.loopN (fun μ s' => ∃ (L : List Bool) (todo : List Nat), μ ≤ 300 ∧ 2 * L.count false + todo.length ≤ μ ∧ (f = true → todo = []) ∧ Fld (bInit ⟨st, sts⟩) (bEdge ⟨st, sts⟩) n (fun _ => False) L todo ∧ (∀ x, bInit ⟨st, sts⟩ x → L[x]? = some true) ∧ s' = ⟨44, [(2, .fn 117 [.ref 5 0]), (7, .ref 7 0), (8, .ref 8 0)], [(1, ⟨24, [.i st, .d (stsD sts)], false, 0⟩), (5, ⟨70, [.d (.sl 1 24 (B.map encB))], false, 0⟩), (100, ⟨3, todo.map V.n, f, 1⟩), (7, ⟨107, [.own 13 1 n false], false, 0⟩), (8, ⟨40, [.own 100 1 todo.length f], false, 0⟩), (13, ⟨4, L.map V.b, false, 1⟩)], []⟩) ⟨_, _, ?_, L, F, by have := List.count_le_length (l := L) (a := false); omega, Nat.le_refl _, hFf, hfld, hLi, rfl⟩ ?_
    ·exact (Less.of rfl (by repeat (first | exact trivial | refine ⟨⟨_, rfl, Wk.refl _⟩, ?_⟩ | refine ⟨⟨_, rfl, Wk.nil _ _⟩, ?_⟩ | refine ⟨⟨_, rfl, Wk.junk _⟩, ?_⟩)) (by repeat (first | exact trivial | refine ⟨rfl, ?_⟩ | exact LH.fam | refine LH.skip (by decide) ?_)) rfl)
    rintro μ s' ⟨L, todo, hμ3, hμ, hft, hfl, hLi, rfl⟩
    rcases List.eq_nil_or_concat todo with hnil | ⟨T, q, hTq⟩
    ·have hz0 : ¬ 0 < todo.length := by simp [hnil]
     have hL := hfl.done hnil (fun _ h => h) hLi hin
     refine AW.seq ?_
     refine AW.seq ?_
     refine AW.region ?_
     refine AL.rd rfl rfl (rd_load_ref Try.underlying40 rfl rfl rfl rfl rfl rfl) ?_
     refine AL.rp rfl rfl (rp_len_own Try.underlying40 rfl rfl) ?_
     (refine AL.rp rfl rfl (rp_gtrF rfl rfl rfl (by first | assumption | omega | (dsimp only; omega))) ?_)
     refine AL.nil ?_
     try simp only [thenS, S.put, List.nil_append, List.cons_append]
     refine AW.condF rfl ?_
     refine AW.exit ?_
     try simp only [thenS, inBlockS, ↓reduceIte, Nat.reduceEqDiff, List.nil_append, List.cons_append]
     refine AW.seq ?_
     refine AW.region ?_
     refine AL.rd rfl rfl (rd_load_ref Try.underlying107 rfl rfl rfl rfl rfl rfl) ?_
     refine AL.rp rfl rfl (rp_assign rfl rfl) ?_
     refine AL.nil ?_
     try simp only [thenS, S.put, List.nil_append, List.cons_append]
     refine AW.ret ?_
     try simp only [thenS, inBlockS, ↓reduceIte, Nat.reduceEqDiff, List.nil_append, List.cons_append]
     refine ⟨[_], ⟨rfl, trivial⟩, ?_⟩
     try simp only [S.put, tupOf, List.zip_cons_cons, List.zip_nil_left, List.drop_succ_cons, List.drop_zero, List.length_cons, List.length_nil, Nat.zero_add, Nat.reduceAdd]
     refine AL.rp rfl rfl (rp_assign rfl rfl) ?_
     refine AL.rp rfl rfl (rp_assign rfl rfl) ?_
     refine AL.nil ?_
     try simp only [thenS, S.put, List.nil_append, List.cons_append]
     refine AW.freeze 2 1 (L.map fun b => [.p (.bool b)]) rfl rfl rfl (by rw [List.length_map, hfl.len]) (by omega) (rows1 rfl) ?_
     refine AW.ret ?_
     exact ⟨[_, _], ⟨rfl, rfl, trivial⟩, .inr ⟨h0, by rw [h0, hA, ← hL]; rfl⟩, by simp [tupOf, V.pure, V.has, V.hasL]⟩
    ·rw [List.concat_eq_append] at hTq
     subst hTq
     obtain rfl : f = false := by cases f with | false => rfl | true => simp at hft
     obtain ⟨t, ht⟩ : ∃ t, T.length = t := ⟨_, rfl⟩
     have hlen : (T ++ [q]).length = t + 1 := by simp [ht]
     rw [hlen] at hμ ⊢
     have hlast : (T ++ [q])[t]? = some q := by simp [← ht]
     obtain ⟨hqL, hfl⟩ := hfl.take
     have hqn : q < n := by have := (List.getElem?_eq_some_iff.1 hqL).1; rw [hfl.len] at this; exact this
     have hLs : L.length = n := hfl.len
     have hcf : L.count false ≤ n := by rw [← hLs]; exact List.count_le_length
     obtain ⟨x, hx⟩ := get_lt hBn hqn
     obtain ⟨la, hla⟩ : ∃ n, x.length = n := ⟨_, rfl⟩
     have hla' := (hB q x hx).1
     rw [hla] at hla'
     have hxm := (hB q x hx).2
     refine AW.seq ?_
     refine AW.seq ?_
     refine AW.region ?_
     refine AL.rd rfl rfl (rd_load_ref Try.underlying40 rfl rfl rfl rfl rfl rfl) ?_
     refine AL.rp rfl rfl (rp_len_own Try.underlying40 rfl rfl) ?_
     (refine AL.rp rfl rfl (rp_gtrT rfl rfl rfl (by first | assumption | omega | (dsimp only; omega))) ?_)
     refine AL.nil ?_
     try simp only [thenS, S.put, List.nil_append, List.cons_append]
     refine AW.condT rfl ?_
     refine AW.skip ?_
     try simp only [thenS, List.nil_append, List.cons_append]
     refine AW.block ?_
     refine AW.seq ?_
     refine AW.region ?_
     refine AL.rd rfl rfl (rd_load_ref Try.underlying40 rfl rfl rfl rfl rfl rfl) ?_
     refine AL.rd rfl rfl (rd_load_ref Try.underlying40 rfl rfl rfl rfl rfl rfl) ?_
     refine AL.rp rfl rfl (rp_len_own Try.underlying40 rfl rfl) ?_
     refine AL.rp rfl rfl (rp_sub rfl rfl rfl (by first | omega | (dsimp only; omega))) ?_
     refine AL.rp rfl rfl (rp_index_own (k := t) Try.underlying40 inf3 rfl rfl rfl (by omega) (by omega)) ?_
     refine AL.rd rfl rfl (rd_load_map Try.underlying3 rfl rfl rfl rfl rfl rfl (by assumption)) ?_
     refine AL.rp rfl rfl (rp_assign rfl rfl) ?_
     refine AL.nil ?_
     try simp only [thenS, S.put, List.nil_append, List.cons_append]
     refine AW.seq ?_
     refine AW.region ?_
     refine AL.rd rfl rfl (rd_load_ref Try.underlying40 rfl rfl rfl rfl rfl rfl) ?_
     refine AL.rd rfl rfl (rd_load_ref Try.underlying40 rfl rfl rfl rfl rfl rfl) ?_
     refine AL.rp rfl rfl (rp_len_own Try.underlying40 rfl rfl) ?_
     refine AL.rp rfl rfl (rp_sub rfl rfl rfl (by first | omega | (dsimp only; omega))) ?_
     refine AL.rd rfl rfl (rp_slice_own (k := t) Try.underlying40 inf3 rfl rfl rfl (by omega) (by omega)) ?_
     (refine AL.st rfl (st_store inf40 rfl rfl rfl rfl rfl rfl rfl (by first | decide | (simp; done)) rfl) ?_)
     refine AL.nil ?_
     try simp only [thenS, S.put, S.newObj, setL, V.cs, List.length_cons, List.length_nil, List.take_succ_cons, List.take_zero, List.drop_succ_cons, List.drop_zero, List.drop_nil, List.nil_append, List.cons_append, List.append_nil, Nat.zero_add, Nat.reduceAdd, List.map_cons, List.map_nil, List.set_cons_zero, List.set_cons_succ]
     refine AW.cut 100 (T.map V.n) rfl ⟨[V.n q], by simp⟩ ?_
     refine AW.region ?_
     refine AL.rp rfl rfl (rp_move rfl rfl) ?_
     refine AL.rp rfl rfl (rp_move rfl rfl) ?_
     refine AL.rp rfl rfl (rp_func (vs := [_, _]) rfl rfl) ?_
     refine AL.inline [2, 7, 8] (ts := [_, _, _]) (ars := [_, _]) rfl rfl ⟨Try.func117, rfl, rfl, rfl, rfl⟩ rfl rfl rfl (by simp) rfl fun kx => ?_
     try simp only [thenS, S.put, enum, List.nil_append, List.cons_append, List.append_nil, Nat.zero_add, Nat.reduceAdd]
     refine AW.seq ?_
     refine AW.region ?_
     refine AL.rd rfl rfl (rd_load_ref Try.underlying70 rfl rfl rfl rfl rfl rfl) ?_
     refine AL.rp rfl rfl (rp_move rfl rfl) ?_
     refine AL.rp rfl rfl (rp_index_map Try.underlying70 inf40 rfl rfl rfl rfl (by assumption)) ?_
     refine AL.rd rfl rfl (rd_load_ad Try.underlying40 rfl rfl rfl rfl) ?_
     refine AL.rp rfl rfl (rp_len_map Try.underlying40 rfl rfl (by assumption)) ?_
     refine AL.rp rfl rfl (rp_move rfl rfl) ?_
     refine AL.nil ?_
     try simp only [thenS, S.put, List.nil_append, List.cons_append]
     refine AW.block ?_
     refine AW.loop (fun s' => ∃ (i : Nat) (L : List Bool) (T : List Nat), i ≤ la ∧ 2 * L.count false + T.length < μ ∧ Fld (bInit ⟨st, sts⟩) (bEdge ⟨st, sts⟩) n (fun x => x = q) L T ∧ L[q]? = some true ∧ (∀ x, bInit ⟨st, sts⟩ x → L[x]? = some true) ∧ (∀ (j p : Nat), j < i → x[j]? = some p → L[p]? = some true) ∧ s' = ⟨20, [(1, .fn 126 [.ref 7 0, .ref 8 0]), (10, .d (.sl 1 8 (x.map fun x : Nat => [.p (.int .i64 (x : Int))]))), (11, .i la), (12, .i i)], [(1, ⟨24, [.i st, .d (stsD sts)], false, 0⟩), (5, ⟨70, [.d (.sl 1 24 (B.map encB))], false, 0⟩), (100, ⟨3, T.map V.n, false, 1⟩), (7, ⟨107, [.own 13 1 n false], false, 0⟩), (8, ⟨40, [.own 100 1 T.length false], false, 0⟩), (13, ⟨4, L.map V.b, false, 1⟩)], [.fn 117 [.ref 5 0], .ref 7 0, .ref 8 0]⟩) (fun s' => la - s'.nat 12) ⟨_, ?_, 0, L, T, by omega, by omega, hfl, hqL, hLi, fun j p h => absurd h (by omega), rfl⟩ ?_
     ·rw [ht]; exact (Less.of rfl (by repeat (first | exact trivial | refine ⟨⟨_, rfl, Wk.refl _⟩, ?_⟩ | refine ⟨⟨_, rfl, Wk.nil _ _⟩, ?_⟩ | refine ⟨⟨_, rfl, Wk.junk _⟩, ?_⟩)) (by repeat (first | exact trivial | refine ⟨rfl, ?_⟩ | exact LH.fam | refine LH.skip (by decide) ?_)) rfl)
     rintro s' ⟨i, L, T, hi, hμ', hfl, hqL, hLi, hdone, rfl⟩
     by_cases hil : i < la
     ·obtain ⟨p, hy⟩ := get_lt hla hil
      obtain ⟨_, hedge⟩ := (hxm p).1 (List.mem_of_getElem? hy)
      have hpn : p < n := by obtain ⟨s, a, h1, _⟩ := hedge; have := (List.getElem?_eq_some_iff.1 h1).1; simpa [hn] using this
      have hLs : L.length = n := hfl.len
      obtain ⟨b, hb⟩ := get_lt hLs hpn
      have hpl : p < L.length := by omega
      have hnew : ∀ L' : List Bool, (∀ z : Nat, L[z]? = some true → L'[z]? = some true) → L'[p]? = some true → ∀ (j r : Nat), j < i + 1 → x[j]? = some r → L'[r]? = some true := by
       intro L' h1 h2 j r hj ha
       by_cases e : j = i
       ·subst e
        rw [hy] at ha
        simp only [Option.some.injEq] at ha
        subst ha
        exact h2
       ·exact h1 r (hdone j r (by omega) ha)
      refine AW.seq ?_
      refine AW.region ?_
      (refine AL.rp rfl rfl (rp_lssT rfl rfl rfl (by first | assumption | omega | (dsimp only; omega))) ?_)
      refine AL.nil ?_
      try simp only [thenS, S.put, List.nil_append, List.cons_append]
      refine AW.seq ?_
      refine AW.condT rfl ?_
      refine AW.skip ?_
      try simp only [thenS, List.nil_append, List.cons_append]
      refine AW.seq ?_
      refine AW.block ?_
      refine AW.seq ?_
      refine AW.region ?_
      refine AL.rp rfl rfl (rp_index_map Try.underlying40 inf3 rfl rfl rfl rfl (by assumption)) ?_
      refine AL.rd rfl rfl (rd_load_ad Try.underlying3 rfl rfl rfl rfl) ?_
      refine AL.rp rfl rfl (rp_assign rfl rfl) ?_
      refine AL.nil ?_
      try simp only [thenS, S.put, List.nil_append, List.cons_append]
      refine AW.region ?_
      refine AL.rp rfl rfl (rp_move rfl rfl) ?_
      refine AL.rp rfl rfl (rp_move rfl rfl) ?_
      refine AL.inline [1, 10, 11, 12] (ts := [_, _, _, _]) (ars := [_]) rfl rfl ⟨Try.func126, rfl, rfl, rfl, rfl⟩ rfl rfl rfl (by simp) rfl fun kx => ?_
      try simp only [thenS, S.put, enum, List.nil_append, List.cons_append, List.append_nil, Nat.zero_add, Nat.reduceAdd]
      refine AW.seq ?_
      refine AW.region ?_
      refine AL.rd rfl rfl (rd_load_ref Try.underlying107 rfl rfl rfl rfl rfl rfl) ?_
      refine AL.rp rfl rfl (rp_move rfl rfl) ?_
      refine AL.rp rfl rfl (rp_index_own Try.underlying107 inf4 rfl rfl rfl rfl (by first | assumption | omega)) ?_
      refine AL.rd rfl rfl (rd_load_map Try.underlying4 rfl rfl rfl rfl rfl rfl (by assumption)) ?_
      refine AL.rp rfl rfl (rp_not rfl rfl) ?_
      refine AL.nil ?_
      try simp only [thenS, S.put, List.nil_append, List.cons_append]
      cases b with
      | true =>
       refine AW.condF rfl ?_
       refine AW.skip ?_
       try simp only [thenS, List.nil_append, List.cons_append]
       refine ⟨[], trivial, ?_⟩
       try simp only [S.put, tupOf, List.zip_cons_cons, List.zip_nil_left, List.drop_succ_cons, List.drop_zero, List.length_cons, List.length_nil, Nat.zero_add, Nat.reduceAdd]
       refine AL.nil ?_
       try simp only [thenS, S.put, List.nil_append, List.cons_append]
       refine AW.region ?_
       refine AL.rp rfl rfl (rp_add rfl rfl rfl (by first | omega | (dsimp only; omega))) ?_
       refine AL.rp rfl rfl (rp_move rfl rfl) ?_
       refine AL.nil ?_
       try simp only [thenS, S.put, List.nil_append, List.cons_append]
       refine ⟨_, ?_, ⟨i + 1, L, T, by omega, hμ', hfl, hqL, hLi, hnew L (fun _ h => h) hb, rfl⟩, ?_⟩
       ·exact (Less.of rfl (by repeat (first | exact trivial | refine ⟨⟨_, rfl, Wk.refl _⟩, ?_⟩ | refine ⟨⟨_, rfl, Wk.nil _ _⟩, ?_⟩ | refine ⟨⟨_, rfl, Wk.junk _⟩, ?_⟩)) (by repeat (first | exact trivial | refine ⟨rfl, ?_⟩ | exact LH.fam | refine LH.skip (by decide) ?_)) rfl)
       ·simp [S.nat, fnd]; omega
      | false =>
       have hc := count_set L hb
       refine AW.condT rfl ?_
       refine AW.seq ?_
       refine AW.region ?_
       refine AL.rd rfl rfl (rd_load_ref Try.underlying107 rfl rfl rfl rfl rfl rfl) ?_
       refine AL.rp rfl rfl (rp_move rfl rfl) ?_
       refine AL.rp rfl rfl (rp_index_own Try.underlying107 inf4 rfl rfl rfl rfl (by first | assumption | omega)) ?_
       refine AL.st rfl (st_store_map2 inf4 rfl rfl rfl rfl rfl rfl rfl rfl (by first | assumption | omega)) ?_
       refine AL.nil ?_
       try simp only [thenS, S.put, S.newObj, setL, V.cs, List.length_cons, List.length_nil, List.take_succ_cons, List.take_zero, List.drop_succ_cons, List.drop_zero, List.drop_nil, List.nil_append, List.cons_append, List.append_nil, Nat.zero_add, Nat.reduceAdd, List.map_cons, List.map_nil, List.set_cons_zero, List.set_cons_succ]
       refine AW.region ?_
       refine AL.rd rfl rfl (rd_load_ref Try.underlying40 rfl rfl rfl rfl rfl rfl) ?_
       refine AL.rp rfl rfl (rp_move rfl rfl) ?_
       refine AL.sm rfl (sm_slice (vs := [(0, _)]) (zs := [.d (.p (.int .i64 0))]) 14 Try.underlying40 inf3 rfl rfl (by decide) (by decide) (by decide) rfl rfl rfl rfl (by first | rfl | (simp only [S.clean, S.put, S.newObj, List.all_cons, objs_clean_low, Nat.reduceLT]; simp [S.forget, V.has, V.hasL, junkIf, setL, V.cs, hasL_i, hasL_b, hasL_s, hasL_n, hasL_rep, hasL_flat, hasL_append, cells_hasL_low, has_ownV, hasL_frep, nb1, nb2, nb3, nb4, -List.map_set]; try omega)) rfl rfl) ?_
       refine AL.st rfl (st_appendF Try.underlying40 inf3 rfl (by decide) rfl rfl rfl rfl rfl rfl (by first | assumption | rfl | (simp; done)) (by first | rfl | (simp only [S.clean, S.put, S.newObj, List.all_cons, objs_clean_low, Nat.reduceLT]; simp [S.forget, V.has, V.hasL, junkIf, setL, V.cs, hasL_i, hasL_b, hasL_s, hasL_n, hasL_rep, hasL_flat, hasL_append, cells_hasL_low, has_ownV, hasL_frep, nb1, nb2, nb3, nb4, -List.map_set]; try omega)) rfl rfl rfl rfl rfl rfl rfl (by decide) (by omega) (by omega) rfl) ?_
       simp only [objs_filter_low, Fam.objs_forget, cells_hasL_low, has_ownV, nb3, nb4, Nat.reduceLT, S.forget, S.put, S.newObj, junkIf, V.has, V.hasL, hasL_i, hasL_b, hasL_s, hasL_d, hasL_n, hasL_rep, hasL_flat, hasL_append, List.map_cons, List.map_nil, List.filter_cons, List.filter_nil, Nat.reduceBNe, Nat.reduceBEq, eq_self, bne_self_eq_false,  Bool.not_true, Bool.not_false, Bool.or_false, Bool.or_true, Bool.false_or, Bool.true_or, if_true, if_false, Bool.false_eq_true, ite_true, ite_false, ↓reduceIte, beq_self_eq_true, Nat.reduceEqDiff]
       (refine AL.st rfl (st_store inf40 rfl rfl rfl rfl rfl rfl rfl (by first | decide | (simp; done)) rfl) ?_)
       refine AL.nil ?_
       try simp only [thenS, S.put, S.newObj, setL, V.cs, List.length_cons, List.length_nil, List.take_succ_cons, List.take_zero, List.drop_succ_cons, List.drop_zero, List.drop_nil, List.nil_append, List.cons_append, List.append_nil, Nat.zero_add, Nat.reduceAdd, List.map_cons, List.map_nil, List.set_cons_zero, List.set_cons_succ]
       refine ⟨[], trivial, ?_⟩
       try simp only [S.put, tupOf, List.zip_cons_cons, List.zip_nil_left, List.drop_succ_cons, List.drop_zero, List.length_cons, List.length_nil, Nat.zero_add, Nat.reduceAdd]
       refine AL.nil ?_
       try simp only [thenS, S.put, List.nil_append, List.cons_append]
       refine AW.region ?_
       refine AL.rp rfl rfl (rp_add rfl rfl rfl (by first | omega | (dsimp only; omega))) ?_
       refine AL.rp rfl rfl (rp_move rfl rfl) ?_
       refine AL.nil ?_
       try simp only [thenS, S.put, List.nil_append, List.cons_append]
       refine ⟨_, ?_, ⟨i + 1, L.set p true, T ++ [p], by omega, by simp; omega, hfl.push hqL hedge hb, set_true_get hqL, fun z hz => set_true_get (hLi z hz), hnew _ (fun _ h => set_true_get h) (by rw [List.getElem?_set_self hpl]), rfl⟩, ?_⟩
       ·simp only [List.map_append, List.map_cons, List.map_nil, List.length_append, List.length_cons, List.length_nil, Nat.zero_add]
        exact (Less.of rfl (by repeat (first | exact trivial | refine ⟨⟨_, rfl, Wk.refl _⟩, ?_⟩ | refine ⟨⟨_, rfl, Wk.nil _ _⟩, ?_⟩ | refine ⟨⟨_, rfl, Wk.junk _⟩, ?_⟩)) (by repeat (first | exact trivial | refine ⟨rfl, ?_⟩ | exact LH.fam | refine LH.skip (by decide) ?_)) rfl)
       ·simp [S.nat, fnd]; omega
     ·skip
      refine AW.seq ?_
      refine AW.region ?_
      (refine AL.rp rfl rfl (rp_lssF rfl rfl rfl (by first | assumption | omega | (dsimp only; omega))) ?_)
      refine AL.nil ?_
      try simp only [thenS, S.put, List.nil_append, List.cons_append]
      refine AW.seq ?_
      refine AW.condF rfl ?_
      refine AW.exit ?_
      try simp only [thenS, inBlockS, ↓reduceIte, Nat.reduceEqDiff, List.nil_append, List.cons_append]
      refine ⟨[], trivial, ?_⟩
      try simp only [S.put, tupOf, List.zip_cons_cons, List.zip_nil_left, List.drop_succ_cons, List.drop_zero, List.length_cons, List.length_nil, Nat.zero_add, Nat.reduceAdd]
      refine AL.nil ?_
      try simp only [thenS, S.put, List.nil_append, List.cons_append]
      refine ⟨_, _, ?_, ⟨L, T, ?_, Nat.le_refl _, by simp, hfl.settle (fun p he hp => ?_), hLi, rfl⟩, hμ'⟩
      ·exact (Less.of rfl (by repeat (first | exact trivial | refine ⟨⟨_, rfl, Wk.refl _⟩, ?_⟩ | refine ⟨⟨_, rfl, Wk.nil _ _⟩, ?_⟩ | refine ⟨⟨_, rfl, Wk.junk _⟩, ?_⟩)) (by repeat (first | exact trivial | refine ⟨rfl, ?_⟩ | exact LH.fam | refine LH.skip (by decide) ?_)) rfl)
      ·omega
      ·obtain ⟨j, hj⟩ := List.getElem?_of_mem ((hxm p).2 ⟨hp, he⟩)
       have hjl : j < la := by rw [← hla]; exact (List.getElem?_eq_some_iff.1 hj).1
       exact hdone j p (by omega) hj
 ·obtain ⟨st, sts⟩ := m
  obtain ⟨e, he⟩ : ∃ e, machE ⟨st, sts⟩ = e := ⟨_, rfl⟩
  rw [he] at h0 ⊢
  refine Fn.intro (n := 62) ⟨Try.func88, rfl, rfl, rfl, rfl⟩ (by simp [V.pure, V.has, V.hasL]) (by simp) fun w0 out => ?_
  refine AW.seq ?_
  refine AW.region ?_
  refine AL.sm rfl (sm_box 1 rfl rfl rfl rfl rfl) ?_
  refine AL.rp rfl rfl (rp_assign rfl rfl) ?_
  refine AL.rp rfl rfl (rp_assign rfl rfl) ?_
  refine AL.nil ?_
  try simp only [thenS, S.put, S.newObj, setL, V.cs, List.length_cons, List.length_nil, List.take_succ_cons, List.take_zero, List.drop_succ_cons, List.drop_zero, List.drop_nil, List.nil_append, List.cons_append, List.append_nil, Nat.zero_add, Nat.reduceAdd, List.map_cons, List.map_nil, List.set_cons_zero, List.set_cons_succ, enum]
  refine AW.seq ?_
  refine AW.seq ?_
  refine AW.region ?_
  refine AL.rd rfl rfl (rd_loads_ref Try.underlying24 rfl inf24 rfl rfl rfl rfl rfl rfl) ?_
  refine AL.call (post := ?pc7) rfl (sm_call (args := [_]) ?hc7 ⟨Try.func48, rfl, rfl, rfl, rfl⟩ rfl rfl rfl rfl) ?_
  case hc7 => exact Fn.eqi (am_Check ⟨st, sts⟩) he
  rintro _ rfl -
  try dsimp only
  refine AL.rp rfl rfl (rp_assign rfl rfl) ?_
  refine AL.nil ?_
  try simp only [thenS, S.put, S.newObj, setL, V.cs, List.length_cons, List.length_nil, List.take_succ_cons, List.take_zero, List.drop_succ_cons, List.drop_zero, List.drop_nil, List.nil_append, List.cons_append, List.append_nil, Nat.zero_add, Nat.reduceAdd, List.map_cons, List.map_nil, List.set_cons_zero, List.set_cons_succ]
  refine AW.seq ?_
  refine AW.region ?_
  refine AL.rp rfl rfl (rp_move rfl rfl) ?_
  (refine AL.rp rfl rfl (rp_neqT rfl rfl rfl (by first | assumption | omega | (dsimp only; omega))) ?_)
  refine AL.nil ?_
  try simp only [thenS, S.put, List.nil_append, List.cons_append]
  refine AW.condT rfl ?_
  refine AW.seq ?_
  refine AW.region ?_
  refine AL.rp rfl rfl (rp_move rfl rfl) ?_
  refine AL.rp rfl rfl (rp_assign rfl rfl) ?_
  refine AL.rp rfl rfl (rp_assign rfl rfl) ?_
  refine AL.nil ?_
  try simp only [thenS, S.put, List.nil_append, List.cons_append]
  refine AW.ret ?_
  exact ⟨[_, _], ⟨rfl, rfl, trivial⟩, .inl ⟨h0, rfl⟩, by simp [tupOf, V.pure, V.has, V.hasL]⟩
theorem am_Back (m : Mach) : Fn Try.prog 88 [mV m] (fun v => v = .tup [.d (boolsD (backL m)), .i (machE m)]) := (am_Back0 m).wk (backL_wk m)
end Go.Proofs.Ytjbldphpkkmdpaa
