-- AmZ
/- distance.far, with what it has made still to be changed. -/
import Derived.Test.YtjbldphpkkmdpaaAmFar
import Derived.Test.YtjbldphpkkmdpaaAmW
namespace Go.Proofs.Ytjbldphpkkmdpaa
open Go.RowKit
set_option linter.unusedSimpArgs false
set_option linter.unusedVariables false
set_option maxRecDepth 100000
set_option maxHeartbeats 1000000 in
theorem am_farO (F : List Nat) (E : List (List (Nat × Nat))) (n : Nat) (hF : F.length = n) (hE : E.length = n) (hn60 : n ≤ 60) (hFx : ∀ x ∈ F, x ≤ 1000000001) (hEl : ∀ l ∈ E, l.length ≤ 24000 ∧ ∀ p w, (p, w) ∈ l → p < n ∧ w ≤ 1000000000) (hall0 : (dstL (fInit F) (fEdge E) n).all okD = true) :
  FnO Try.prog 89 [.d (intsN F), .d (.sl 1 24 (E.map encE))] (fun v H => v = .tup [.own 21 1 n false, .i 0] ∧ H = [(21, ⟨3, ((dstL (fInit F) (fEdge E) n).map tell).map V.n, false, 1⟩)]) := by
 have hbig := big_eq
 have hin : ∀ q p w, fEdge E q p w → q < n := fun q p w ⟨l, h, _⟩ => by rw [← hE]; exact (List.getElem?_eq_some_iff.1 h).1
 obtain ⟨D, hD⟩ : ∃ D, dstL (fInit F) (fEdge E) n = D := ⟨_, rfl⟩
 have hDl : D.length = n := by rw [← hD]; simp [dstL]
 have hDb : ∀ x ∈ D, x ≤ big := by
  intro x hx
  rw [← hD] at hx
  simp only [dstL, List.mem_map] at hx
  obtain ⟨q, _, rfl⟩ := hx
  exact (dst_spec q).1
 rw [hD] at hall0 ⊢
 refine FnO.intro (n := 117) ⟨Try.func89, rfl, rfl, rfl, rfl⟩ (by simp [V.pure, V.has, V.hasL]) (by simp) fun w0 out => ?_
 refine AW.seq ?_
 refine AW.region ?_
 refine AL.rp rfl rfl (rp_assign rfl rfl) ?_
 refine AL.rp rfl rfl (rp_assign rfl rfl) ?_
 refine AL.nil ?_
 try simp only [thenS, S.put, enum, List.nil_append, List.cons_append, List.append_nil, Nat.zero_add, Nat.reduceAdd]
 refine AW.seq ?_
 refine AW.region ?_
 refine AL.rp rfl rfl (rp_move rfl rfl) ?_
 refine AL.rp rfl rfl (rp_len_map Try.underlying40 rfl rfl (by assumption)) ?_
 refine AL.sm rfl (sm_make_map 21 V.i (0) Try.underlying40 inf3 rfl rfl rfl rfl rfl (by omega) (by decide) rfl rfl) ?_
 refine AL.rp rfl rfl (rp_assign rfl rfl) ?_
 refine AL.nil ?_
 try simp only [thenS, S.put, S.newObj, setL, V.cs, List.length_cons, List.length_nil, List.take_succ_cons, List.take_zero, List.drop_succ_cons, List.drop_zero, List.drop_nil, List.nil_append, List.cons_append, List.append_nil, Nat.zero_add, Nat.reduceAdd, List.map_cons, List.map_nil, List.set_cons_zero, List.set_cons_succ]
 refine AW.seq ?_
 refine AW.seq ?_
 refine AW.region ?_
 refine AL.rp rfl rfl (rp_move rfl rfl) ?_
 refine AL.rp rfl rfl (rp_len_map Try.underlying40 rfl rfl (by assumption)) ?_
 refine AL.rp rfl rfl (rp_move rfl rfl) ?_
 refine AL.nil ?_
 try simp only [thenS, S.put]
 refine AW.block ?_
 refine AW.loop (fun s' => ∃ (k : Nat) (C : List Nat), k ≤ n ∧ C.length = n ∧ (∀ q x : Nat, q < k → F[q]? = some x → C[q]? = some (iC x)) ∧ s' = ⟨117, [(0, .d (intsN F)), (1, .d (.sl 1 24 (E.map encE))), (6, .own 21 1 n false), (22, .d (intsN F)), (23, .i n), (24, .i k)], [(21, ⟨3, C.map V.n, false, 1⟩)], []⟩) (fun s' => n - s'.nat 24) ⟨_, ?_, 0, List.replicate n 0, by omega, by simp, (fun q x h => absurd h (by omega)), rfl⟩ ?_
 ·have hz : (List.replicate n (0 : Int)).map V.i = (List.replicate n 0).map V.n := by simp
  rw [hz]
  exact (Less.of rfl (by repeat (first | exact trivial | refine ⟨⟨_, rfl, Wk.refl _⟩, ?_⟩ | refine ⟨⟨_, rfl, Wk.nil _ _⟩, ?_⟩ | refine ⟨⟨_, rfl, Wk.junk _⟩, ?_⟩)) (by repeat (first | exact trivial | refine ⟨rfl, ?_⟩)) rfl)
 rintro s' ⟨k, C, hk, hCl, hC, rfl⟩
 by_cases hlt : k < n
 ·obtain ⟨x, hx⟩ := get_lt hF hlt
  have hkC : k < C.length := by omega
  have hkC2 : k < (C.set k big).length := by simpa using hkC
  have hnext : ∀ C' : List Nat, C' = C.set k (iC x) → ∀ q z : Nat, q < k + 1 → F[q]? = some z → C'[q]? = some (iC z) := by
   intro C' hC' q z hq hz
   subst hC'
   rw [List.getElem?_set]
   by_cases e : k = q
   ·subst e
    rw [hx] at hz
    simp only [Option.some.injEq] at hz
    subst hz
    simp [hkC]
   ·rw [if_neg e]; exact hC q z (by omega) hz
  by_cases hi : x = 1000000001
  ·skip
   refine AW.seq ?_
   refine AW.region ?_
   (refine AL.rp rfl rfl (rp_lssT rfl rfl rfl (by first | assumption | omega | (dsimp only; omega))) ?_)
   refine AL.nil ?_
   try simp only [thenS, S.put]
   refine AW.seq ?_
   refine AW.condT rfl ?_
   refine AW.skip ?_
   try simp only [thenS]
   refine AW.seq ?_
   refine AW.block ?_
   refine AW.seq ?_
   refine AW.region ?_
   refine AL.rp rfl rfl (rp_move rfl rfl) ?_
   refine AL.rp rfl rfl (rp_index_map Try.underlying40 inf3 rfl rfl rfl rfl (by assumption)) ?_
   refine AL.rd rfl rfl (rd_load_ad Try.underlying3 rfl rfl rfl rfl) ?_
   refine AL.rp rfl rfl (rp_assign rfl rfl) ?_
   refine AL.rp rfl rfl (rp_assign rfl rfl) ?_
   refine AL.nil ?_
   try simp only [thenS, S.put]
   refine AW.seq ?_
   refine AW.region ?_
   refine AL.rp rfl rfl (rp_move rfl rfl) ?_
   refine AL.rp rfl rfl (rp_move rfl rfl) ?_
   refine AL.rp rfl rfl (rp_index_own Try.underlying40 inf3 rfl rfl rfl rfl (by first | assumption | omega)) ?_
   refine AL.st rfl (st_store_map2 (v := big) inf3 rfl rfl rfl rfl rfl rfl rfl rfl (by first | assumption | omega)) ?_
   refine AL.nil ?_
   try simp only [thenS, S.put, S.newObj, setL, V.cs, List.length_cons, List.length_nil, List.take_succ_cons, List.take_zero, List.drop_succ_cons, List.drop_zero, List.drop_nil, List.nil_append, List.cons_append, List.append_nil, Nat.zero_add, Nat.reduceAdd, List.map_cons, List.map_nil, List.set_cons_zero, List.set_cons_succ]
   refine AW.seq ?_
   refine AW.region ?_
   refine AL.rp rfl rfl (rp_move rfl rfl) ?_
   (refine AL.rp rfl rfl (rp_neqF rfl rfl rfl (by first | assumption | omega | (dsimp only; omega))) ?_)
   refine AL.nil ?_
   try simp only [thenS, S.put]
   refine AW.condF rfl ?_
   refine AW.skip ?_
   try simp only [thenS]
   refine AW.region ?_
   refine AL.rp rfl rfl (rp_add rfl rfl rfl (by first | omega | (dsimp only; omega))) ?_
   refine AL.rp rfl rfl (rp_move rfl rfl) ?_
   refine AL.nil ?_
   try simp only [thenS, S.put]
   refine ⟨_, ?_, ⟨k + 1, C.set k big, by omega, by simpa using hCl, hnext _ (by simp [iC, hi]), rfl⟩, ?_⟩
   ·exact (Less.of rfl (by repeat (first | exact trivial | refine ⟨⟨_, rfl, Wk.refl _⟩, ?_⟩ | refine ⟨⟨_, rfl, Wk.nil _ _⟩, ?_⟩ | refine ⟨⟨_, rfl, Wk.junk _⟩, ?_⟩)) (by repeat (first | exact trivial | refine ⟨rfl, ?_⟩)) rfl)
   ·simp [S.nat, fnd]; omega
  ·skip
   refine AW.seq ?_
   refine AW.region ?_
   (refine AL.rp rfl rfl (rp_lssT rfl rfl rfl (by first | assumption | omega | (dsimp only; omega))) ?_)
   refine AL.nil ?_
   try simp only [thenS, S.put]
   refine AW.seq ?_
   refine AW.condT rfl ?_
   refine AW.skip ?_
   try simp only [thenS]
   refine AW.seq ?_
   refine AW.block ?_
   refine AW.seq ?_
   refine AW.region ?_
   refine AL.rp rfl rfl (rp_move rfl rfl) ?_
   refine AL.rp rfl rfl (rp_index_map Try.underlying40 inf3 rfl rfl rfl rfl (by assumption)) ?_
   refine AL.rd rfl rfl (rd_load_ad Try.underlying3 rfl rfl rfl rfl) ?_
   refine AL.rp rfl rfl (rp_assign rfl rfl) ?_
   refine AL.rp rfl rfl (rp_assign rfl rfl) ?_
   refine AL.nil ?_
   try simp only [thenS, S.put]
   refine AW.seq ?_
   refine AW.region ?_
   refine AL.rp rfl rfl (rp_move rfl rfl) ?_
   refine AL.rp rfl rfl (rp_move rfl rfl) ?_
   refine AL.rp rfl rfl (rp_index_own Try.underlying40 inf3 rfl rfl rfl rfl (by first | assumption | omega)) ?_
   refine AL.st rfl (st_store_map2 (v := big) inf3 rfl rfl rfl rfl rfl rfl rfl rfl (by first | assumption | omega)) ?_
   refine AL.nil ?_
   try simp only [thenS, S.put, S.newObj, setL, V.cs, List.length_cons, List.length_nil, List.take_succ_cons, List.take_zero, List.drop_succ_cons, List.drop_zero, List.drop_nil, List.nil_append, List.cons_append, List.append_nil, Nat.zero_add, Nat.reduceAdd, List.map_cons, List.map_nil, List.set_cons_zero, List.set_cons_succ]
   refine AW.seq ?_
   refine AW.region ?_
   refine AL.rp rfl rfl (rp_move rfl rfl) ?_
   (refine AL.rp rfl rfl (rp_neqT rfl rfl rfl (by first | assumption | omega | (dsimp only; omega))) ?_)
   refine AL.nil ?_
   try simp only [thenS, S.put]
   refine AW.condT rfl ?_
   refine AW.region ?_
   refine AL.rp rfl rfl (rp_move rfl rfl) ?_
   refine AL.rp rfl rfl (rp_move rfl rfl) ?_
   refine AL.rp rfl rfl (rp_move rfl rfl) ?_
   refine AL.rp rfl rfl (rp_index_own Try.underlying40 inf3 rfl rfl rfl rfl (by first | assumption | omega)) ?_
   refine AL.st rfl (st_store_map2 inf3 rfl rfl rfl rfl rfl rfl rfl rfl (by first | assumption | omega)) ?_
   refine AL.nil ?_
   try simp only [thenS, S.put, S.newObj, setL, V.cs, List.length_cons, List.length_nil, List.take_succ_cons, List.take_zero, List.drop_succ_cons, List.drop_zero, List.drop_nil, List.nil_append, List.cons_append, List.append_nil, Nat.zero_add, Nat.reduceAdd, List.map_cons, List.map_nil, List.set_cons_zero, List.set_cons_succ]
   refine AW.region ?_
   refine AL.rp rfl rfl (rp_add rfl rfl rfl (by first | omega | (dsimp only; omega))) ?_
   refine AL.rp rfl rfl (rp_move rfl rfl) ?_
   refine AL.nil ?_
   try simp only [thenS, S.put]
   refine ⟨_, ?_, ⟨k + 1, (C.set k big).set k x, by omega, by simpa using hCl, hnext _ (by simp [iC, hi]), rfl⟩, ?_⟩
   ·exact (Less.of rfl (by repeat (first | exact trivial | refine ⟨⟨_, rfl, Wk.refl _⟩, ?_⟩ | refine ⟨⟨_, rfl, Wk.nil _ _⟩, ?_⟩ | refine ⟨⟨_, rfl, Wk.junk _⟩, ?_⟩)) (by repeat (first | exact trivial | refine ⟨rfl, ?_⟩)) rfl)
   ·simp [S.nat, fnd]; omega
 ·have hCF : ∀ q x : Nat, F[q]? = some x → C[q]? = some (iC x) := fun q x h => hC q x (by have := (List.getElem?_eq_some_iff.1 h).1; omega) h
  have hFC : ∀ q y : Nat, C[q]? = some y → ∃ x, F[q]? = some x ∧ y = iC x := by
   intro q y h
   have hq : q < n := by have := (List.getElem?_eq_some_iff.1 h).1; omega
   obtain ⟨x, hx⟩ := get_lt hF hq
   refine ⟨x, hx, ?_⟩
   have := hCF q x hx
   rw [h] at this
   simpa using this
  have hsnd : Snd (fInit F) (fEdge E) n C := by
   refine ⟨hCl, fun q y h => ?_, fun q y h hb => ?_, fun q y d h hi => ?_⟩
   all_goals
    obtain ⟨x, hx, rfl⟩ := hFC q y h
    have hxl := hFx x (List.mem_of_getElem? hx)
   ·unfold iC; split <;> omega
   ·unfold iC at hb ⊢
    split
    ·rename_i e; rw [if_pos e] at hb; omega
    ·rename_i e; exact .init q x ⟨hx, e⟩
   ·obtain ⟨h1, h2⟩ := hi
    rw [hx] at h1
    simp only [Option.some.injEq] at h1
    subst h1
    unfold iC
    rw [if_neg h2]
    exact Nat.le_refl _
  clear hC hCF hFC
  refine AW.seq ?_
  refine AW.region ?_
  (refine AL.rp rfl rfl (rp_lssF rfl rfl rfl (by first | assumption | omega | (dsimp only; omega))) ?_)
  refine AL.nil ?_
  try simp only [thenS, S.put]
  refine AW.seq ?_
  refine AW.condF rfl ?_
  refine AW.exit ?_
  try simp only [thenS, inBlockS, ↓reduceIte, Nat.reduceEqDiff]
  refine AW.seq ?_
  refine AW.region ?_
  refine AL.sm rfl (sm_alloc (l := [.d (.p (.slice none 0 0))]) 9 inf40 rfl (by simp [S.clean, S.put, S.newObj, S.forget, V.has, V.hasL, junkIf, setL, V.cs, hasL_i, hasL_b, hasL_s, hasL_n, hasL_rep, hasL_flat, hasL_append, -List.map_set]) rfl rfl) ?_
  refine AL.nil ?_
  try simp only [thenS, S.put, S.newObj, setL, V.cs, List.length_cons, List.length_nil, List.take_succ_cons, List.take_zero, List.drop_succ_cons, List.drop_zero, List.drop_nil, List.nil_append, List.cons_append, List.append_nil, Nat.zero_add, Nat.reduceAdd, List.map_cons, List.map_nil, List.set_cons_zero, List.set_cons_succ]
  refine AW.seq ?_
  refine AW.adoptH 9 0 100 1 3 rfl rfl rfl (by simp [S.clean, V.has, V.hasL, V.cs, setL]) ?_
  refine AW.region ?_
  refine AL.rp rfl rfl (rp_move rfl rfl) ?_
  refine AL.rp rfl rfl (rp_len_map Try.underlying40 rfl rfl (by assumption)) ?_
  refine AL.sm rfl (sm_make_map 41 V.b (false) Try.underlying107 inf4 rfl rfl rfl rfl rfl (by omega) (by decide) (by simp [S.clean, S.put, S.newObj, S.forget, V.has, V.hasL, junkIf, setL, V.cs, hasL_i, hasL_b, hasL_s, hasL_n, hasL_rep, hasL_flat, hasL_append, -List.map_set]) rfl) ?_
  refine AL.sm rfl (sm_alloc (l := [.d (.p (.slice none 0 0))]) 10 inf107 rfl (by simp [S.clean, S.put, S.newObj, S.forget, V.has, V.hasL, junkIf, setL, V.cs, hasL_i, hasL_b, hasL_s, hasL_n, hasL_rep, hasL_flat, hasL_append, -List.map_set]) rfl rfl) ?_
  (refine AL.st rfl (st_store inf107 rfl rfl rfl rfl rfl rfl rfl (by first | decide | (simp; done)) rfl) ?_)
  refine AL.nil ?_
  try simp only [thenS, S.put, S.newObj, setL, V.cs, List.length_cons, List.length_nil, List.take_succ_cons, List.take_zero, List.drop_succ_cons, List.drop_zero, List.drop_nil, List.nil_append, List.cons_append, List.append_nil, Nat.zero_add, Nat.reduceAdd, List.map_cons, List.map_nil, List.set_cons_zero, List.set_cons_succ]
  refine AW.seq ?_
  refine AW.region ?_
  refine AL.rp rfl rfl (rp_func (vs := [_, _]) rfl rfl) ?_
  refine AL.rp rfl rfl (rp_assign rfl rfl) ?_
  refine AL.nil ?_
  try simp only [thenS, S.put]
  refine AW.seq ?_
  refine AW.seq ?_
  refine AW.region ?_
  refine AL.rp rfl rfl (rp_move rfl rfl) ?_
  refine AL.rp rfl rfl (rp_len_own Try.underlying40 rfl rfl) ?_
  refine AL.rp rfl rfl (rp_move rfl rfl) ?_
  refine AL.nil ?_
  try simp only [thenS, S.put]
  refine AW.block ?_
  refine AW.loop (fun s' => ∃ (k : Nat) (W : List Bool) (T : List Nat), k ≤ n ∧ W.length = n ∧ (∀ x, W[x]? = some true ↔ x ∈ T) ∧ T.Nodup ∧ W.count true = T.length ∧ (∀ x ∈ T, x < k ∧ ∃ c : Nat, C[x]? = some c ∧ c < big) ∧ (∀ x c : Nat, x < k → C[x]? = some c → c < big → x ∈ T) ∧
   s' = ⟨117, [(1, .d (.sl 1 24 (E.map encE))), (6, .own 21 1 n false), (9, .ref 9 0), (10, .ref 10 0), (11, .fn 118 [.ref 10 0, .ref 9 0]), (44, .i n), (45, .i k)], [(21, ⟨3, C.map V.n, false, 1⟩), (9, ⟨40, [.own 100 1 T.length (decide (T.length = 0))], false, 0⟩), (100, ⟨3, T.map V.n, decide (T.length = 0), 1⟩), (10, ⟨107, [.own 41 1 n false], false, 0⟩), (41, ⟨4, W.map V.b, false, 1⟩)], []⟩) (fun s' => n - s'.nat 45) ⟨_, ?_, 0, List.replicate n false, [], by omega, by simp, by simp [List.getElem?_replicate], by simp, by simp [List.count_replicate], by simp, (fun x c h => absurd h (by omega)), rfl⟩ ?_
  ·exact (Less.of rfl (by repeat (first | exact trivial | refine ⟨⟨_, rfl, Wk.refl _⟩, ?_⟩ | refine ⟨⟨_, rfl, Wk.nil _ _⟩, ?_⟩ | refine ⟨⟨_, rfl, Wk.junk _⟩, ?_⟩)) (by repeat (first | exact trivial | refine ⟨rfl, ?_⟩)) rfl)
  clear hlt hk k
  rintro s' ⟨k, W, T, hk, hW, hWT, hnd, hcnt, hT1, hT2, rfl⟩
  have hcl : W.count true ≤ W.length := List.count_le_length
  by_cases hlt : k < n
  ·obtain ⟨c, hc⟩ := get_lt hCl hlt
   have hcb := hsnd.le k c hc
   by_cases hb : c = big
   ·skip
    refine AW.seq ?_
    refine AW.region ?_
    (refine AL.rp rfl rfl (rp_lssT rfl rfl rfl (by first | assumption | omega | (dsimp only; omega))) ?_)
    refine AL.nil ?_
    try simp only [thenS, S.put]
    refine AW.seq ?_
    refine AW.condT rfl ?_
    refine AW.skip ?_
    try simp only [thenS]
    refine AW.seq ?_
    refine AW.block ?_
    refine AW.seq ?_
    refine AW.region ?_
    refine AL.rp rfl rfl (rp_move rfl rfl) ?_
    refine AL.rp rfl rfl (rp_assign rfl rfl) ?_
    refine AL.nil ?_
    try simp only [thenS, S.put]
    refine AW.seq ?_
    refine AW.region ?_
    refine AL.rp rfl rfl (rp_move rfl rfl) ?_
    refine AL.rp rfl rfl (rp_move rfl rfl) ?_
    refine AL.rp rfl rfl (rp_index_own Try.underlying40 inf3 rfl rfl rfl rfl (by first | assumption | omega)) ?_
    refine AL.rd rfl rfl (rd_load_map Try.underlying3 rfl rfl rfl rfl rfl rfl (by assumption)) ?_
    (refine AL.rp rfl rfl (rp_neqF rfl rfl rfl (by first | assumption | omega | (dsimp only; omega))) ?_)
    refine AL.nil ?_
    try simp only [thenS, S.put]
    refine AW.condF rfl ?_
    refine AW.skip ?_
    try simp only [thenS]
    refine AW.region ?_
    refine AL.rp rfl rfl (rp_add rfl rfl rfl (by first | omega | (dsimp only; omega))) ?_
    refine AL.rp rfl rfl (rp_move rfl rfl) ?_
    refine AL.nil ?_
    try simp only [thenS, S.put]
    refine ⟨_, ?_, ⟨k + 1, W, T, by omega, hW, hWT, hnd, hcnt, fun x hx => ⟨by have := (hT1 x hx).1; omega, (hT1 x hx).2⟩, fun x c' hx hc' hb' => ?_, rfl⟩, ?_⟩
    ·exact (Less.of rfl (by repeat (first | exact trivial | refine ⟨⟨_, rfl, Wk.refl _⟩, ?_⟩ | refine ⟨⟨_, rfl, Wk.nil _ _⟩, ?_⟩ | refine ⟨⟨_, rfl, Wk.junk _⟩, ?_⟩)) (by repeat (first | exact trivial | refine ⟨rfl, ?_⟩)) rfl)
    ·by_cases e : x = k
     ·subst e; rw [hc] at hc'; simp only [Option.some.injEq] at hc'; omega
     ·exact hT2 x c' (by omega) hc' hb'
    ·simp [S.nat, fnd]; omega
   ·have hkT : k ∉ T := fun h => by have := (hT1 k h).1; omega
    have hWk : W[k]? = some false := by
     obtain ⟨b, hbb⟩ := get_lt hW hlt
     cases b with
     | false => exact hbb
     | true => exact absurd ((hWT k).1 hbb) hkT
    have hkW : k < W.length := by omega
    have hcs := (count_set W hWk).1
    refine AW.seq ?_
    refine AW.region ?_
    (refine AL.rp rfl rfl (rp_lssT rfl rfl rfl (by first | assumption | omega | (dsimp only; omega))) ?_)
    refine AL.nil ?_
    try simp only [thenS, S.put]
    refine AW.seq ?_
    refine AW.condT rfl ?_
    refine AW.skip ?_
    try simp only [thenS]
    refine AW.seq ?_
    refine AW.block ?_
    refine AW.seq ?_
    refine AW.region ?_
    refine AL.rp rfl rfl (rp_move rfl rfl) ?_
    refine AL.rp rfl rfl (rp_assign rfl rfl) ?_
    refine AL.nil ?_
    try simp only [thenS, S.put]
    refine AW.seq ?_
    refine AW.region ?_
    refine AL.rp rfl rfl (rp_move rfl rfl) ?_
    refine AL.rp rfl rfl (rp_move rfl rfl) ?_
    refine AL.rp rfl rfl (rp_index_own Try.underlying40 inf3 rfl rfl rfl rfl (by first | assumption | omega)) ?_
    refine AL.rd rfl rfl (rd_load_map Try.underlying3 rfl rfl rfl rfl rfl rfl (by assumption)) ?_
    (refine AL.rp rfl rfl (rp_neqT rfl rfl rfl (by first | assumption | omega | (dsimp only; omega))) ?_)
    refine AL.nil ?_
    try simp only [thenS, S.put]
    refine AW.condT rfl ?_
    refine AW.region ?_
    refine AL.rp rfl rfl (rp_move rfl rfl) ?_
    refine AL.rp rfl rfl (rp_move rfl rfl) ?_
    refine AL.inline [1, 6, 9, 10, 11, 44, 45] (ts := [_, _, _, _, _, _, _]) (ars := [_]) rfl rfl ⟨Try.func118, rfl, rfl, rfl, rfl⟩ rfl rfl rfl (by simp) rfl fun kx => ?_
    try simp only [thenS, S.put, enum, List.nil_append, List.cons_append, List.append_nil, Nat.zero_add, Nat.reduceAdd]
    refine AW.seq ?_
    refine AW.region ?_
    refine AL.rd rfl rfl (rd_load_ref Try.underlying107 rfl rfl rfl rfl rfl rfl) ?_
    refine AL.rp rfl rfl (rp_move rfl rfl) ?_
    refine AL.rp rfl rfl (rp_index_own Try.underlying107 inf4 rfl rfl rfl rfl (by first | assumption | omega)) ?_
    refine AL.rd rfl rfl (rd_load_map Try.underlying4 rfl rfl rfl rfl rfl rfl (by assumption)) ?_
    refine AL.rp rfl rfl (rp_not rfl rfl) ?_
    refine AL.nil ?_
    try simp only [thenS, S.put]
    refine AW.condT rfl ?_
    refine AW.seq ?_
    refine AW.region ?_
    refine AL.rd rfl rfl (rd_load_ref Try.underlying107 rfl rfl rfl rfl rfl rfl) ?_
    refine AL.rp rfl rfl (rp_move rfl rfl) ?_
    refine AL.rp rfl rfl (rp_index_own Try.underlying107 inf4 rfl rfl rfl rfl (by first | assumption | omega)) ?_
    refine AL.st rfl (st_store_map2 inf4 rfl rfl rfl rfl rfl rfl rfl rfl (by first | assumption | omega)) ?_
    refine AL.nil ?_
    try simp only [thenS, S.put, S.newObj, setL, V.cs, List.length_cons, List.length_nil, List.take_succ_cons, List.take_zero, List.drop_succ_cons, List.drop_zero, List.drop_nil, List.nil_append, List.cons_append, List.append_nil, Nat.zero_add, Nat.reduceAdd, List.map_cons, List.map_nil, List.set_cons_zero, List.set_cons_succ]
    refine AW.region ?_
    refine AL.rd rfl rfl (rd_load_ref Try.underlying40 rfl rfl rfl rfl rfl rfl) ?_
    refine AL.rp rfl rfl (rp_move rfl rfl) ?_
    refine AL.sm rfl (sm_slice (vs := [(0, _)]) (zs := [.d (.p (.int .i64 0))]) 14 Try.underlying40 inf3 rfl rfl (by decide) (by decide) (by decide) rfl rfl rfl rfl (by simp [S.clean, S.put, S.newObj, S.forget, V.has, V.hasL, junkIf, setL, V.cs, hasL_i, hasL_b, hasL_s, hasL_n, hasL_rep, hasL_flat, hasL_append, -List.map_set]) rfl rfl) ?_
    refine AL.st rfl (st_appendF Try.underlying40 inf3 rfl (by decide) rfl rfl rfl rfl rfl rfl (by first | assumption | rfl | (simp; done)) (by simp [S.clean, S.put, S.newObj, S.forget, V.has, V.hasL, junkIf, setL, V.cs, hasL_i, hasL_b, hasL_s, hasL_n, hasL_rep, hasL_flat, hasL_append, -List.map_set]) rfl rfl rfl rfl rfl rfl rfl (by decide) (by omega) (by omega) rfl) ?_
    simp only [S.forget, S.put, S.newObj, junkIf, V.has, V.hasL, hasL_i, hasL_b, hasL_s, hasL_d, hasL_n, hasL_rep, hasL_flat, hasL_append, List.map_cons, List.map_nil, List.filter_cons, List.filter_nil, Nat.reduceBNe, Nat.reduceBEq, eq_self, bne_self_eq_false,  Bool.not_true, Bool.not_false, Bool.or_false, Bool.or_true, Bool.false_or, Bool.true_or, if_true, if_false, Bool.false_eq_true, ite_true, ite_false, ↓reduceIte, beq_self_eq_true, Nat.reduceEqDiff]
    (refine AL.st rfl (st_store inf40 rfl rfl rfl rfl rfl rfl rfl (by first | decide | (simp; done)) rfl) ?_)
    refine AL.nil ?_
    try simp only [thenS, S.put, S.newObj, setL, V.cs, List.length_cons, List.length_nil, List.take_succ_cons, List.take_zero, List.drop_succ_cons, List.drop_zero, List.drop_nil, List.nil_append, List.cons_append, List.append_nil, Nat.zero_add, Nat.reduceAdd, List.map_cons, List.map_nil, List.set_cons_zero, List.set_cons_succ]
    refine ⟨[], trivial, ?_⟩
    try simp only [S.put, tupOf, List.zip_cons_cons, List.zip_nil_left, List.drop_succ_cons, List.drop_zero, List.length_cons, List.length_nil, Nat.zero_add, Nat.reduceAdd]
    refine AL.nil ?_
    try simp only [thenS, S.put]
    refine AW.region ?_
    refine AL.rp rfl rfl (rp_add rfl rfl rfl (by first | omega | (dsimp only; omega))) ?_
    refine AL.rp rfl rfl (rp_move rfl rfl) ?_
    refine AL.nil ?_
    try simp only [thenS, S.put]
    refine ⟨_, ?_, ⟨k + 1, W.set k true, T ++ [k], by omega, by simpa using hW, fun x => ?_, ?_, by simp; omega, fun x hx => ?_, fun x c' hx hc' hb' => ?_, rfl⟩, ?_⟩
    ·simp only [List.map_append, List.map_cons, List.map_nil, List.length_append, List.length_cons, List.length_nil, Nat.zero_add]
     exact (Less.of rfl (by repeat (first | exact trivial | refine ⟨⟨_, rfl, Wk.refl _⟩, ?_⟩ | refine ⟨⟨_, rfl, Wk.nil _ _⟩, ?_⟩ | refine ⟨⟨_, rfl, Wk.junk _⟩, ?_⟩)) (by repeat (first | exact trivial | refine ⟨rfl, ?_⟩)) rfl)
    ·rw [List.getElem?_set, List.mem_append, ← hWT x]
     by_cases e : k = x
     ·subst e; simp [hkW]
     ·simp [e, Ne.symm e]
    ·rw [List.nodup_append]
     exact ⟨hnd, by simp, fun a ha b hb => by simp at hb; subst hb; rintro rfl; exact hkT ha⟩
    ·rcases List.mem_append.1 hx with hx | hx
     ·exact ⟨by have := (hT1 x hx).1; omega, (hT1 x hx).2⟩
     ·obtain rfl : x = k := by simpa using hx
      exact ⟨by omega, c, hc, by omega⟩
    ·by_cases e : x = k
     ·subst e; simp
     ·exact List.mem_append.2 (.inl (hT2 x c' (by omega) hc' hb'))
    ·simp [S.nat, fnd]; omega
  ·have hque : Que (fInit F) (fEdge E) n (fun _ => False) C T := ⟨hsnd, fun q hq => (hT1 q hq).2, hnd, fun q p w x y h1 _ h3 h4 h5 _ => absurd (hT2 q x (by have := hin q p w h3; omega) h4 h5) h1⟩
   clear hT1 hT2 hnd
   refine AW.seq ?_
   refine AW.region ?_
   (refine AL.rp rfl rfl (rp_lssF rfl rfl rfl (by first | assumption | omega | (dsimp only; omega))) ?_)
   refine AL.nil ?_
   try simp only [thenS, S.put]
   refine AW.seq ?_
   refine AW.condF rfl ?_
   refine AW.exit ?_
   try simp only [thenS, inBlockS, ↓reduceIte, Nat.reduceEqDiff]
   refine AW.seqc (fun s' => s' = ⟨117, [(6, .own 21 1 n false)], [(21, ⟨3, D.map V.n, false, 1⟩)], []⟩) ?_ ?_
   ·skip
    by_cases hT0 : T = []
    ·have hCD := hque.done hT0 hin
     rw [hD] at hCD
     subst hT0 hCD
     refine AW.block ?_
     refine AW.loop (fun s' => s' = ⟨117, [(6, .own 21 1 n false), (9, .ref 9 0)], [(21, ⟨3, C.map V.n, false, 1⟩), (9, ⟨40, [.own 100 1 0 true], false, 0⟩)], []⟩) (fun s' => 0) ⟨_, ?_, rfl⟩ ?_
     ·exact (Less.of rfl (by repeat (first | exact trivial | refine ⟨⟨_, rfl, Wk.refl _⟩, ?_⟩ | refine ⟨⟨_, rfl, Wk.nil _ _⟩, ?_⟩ | refine ⟨⟨_, rfl, Wk.junk _⟩, ?_⟩)) (by repeat (first | exact trivial | refine ⟨rfl, ?_⟩)) rfl)
     rintro s' rfl
     refine AW.seq ?_
     refine AW.seq ?_
     refine AW.region ?_
     refine AL.rd rfl rfl (rd_load_ref Try.underlying40 rfl rfl rfl rfl rfl rfl) ?_
     refine AL.rp rfl rfl (rp_len_own Try.underlying40 rfl rfl) ?_
     (refine AL.rp rfl rfl (rp_gtrF rfl rfl rfl (by first | assumption | omega | (dsimp only; omega))) ?_)
     refine AL.nil ?_
     try simp only [thenS, S.put]
     refine AW.condF rfl ?_
     refine AW.exit ?_
     try simp only [thenS, inBlockS, ↓reduceIte, Nat.reduceEqDiff]
     refine ⟨_, ?_, rfl⟩
     exact (Less.of rfl (by repeat (first | exact trivial | refine ⟨⟨_, rfl, Wk.refl _⟩, ?_⟩ | refine ⟨⟨_, rfl, Wk.nil _ _⟩, ?_⟩ | refine ⟨⟨_, rfl, Wk.junk _⟩, ?_⟩)) (by repeat (first | exact trivial | refine ⟨rfl, ?_⟩)) rfl)
    ·have hT0' : decide (T.length = 0) = false := by cases T with | nil => exact absurd rfl hT0 | cons => rfl
     rw [hT0']
     refine AW.less (Less.cell 9 0 (.que 100 1 0 T.length) rfl rfl (.que 100 1 T.length)) ?_
     refine AW.block ?_
     refine AW.loopN (fun μ s' => ∃ (C : List Nat) (W : List Bool) (pre T : List Nat), 2 * C.sum + T.length ≤ μ ∧ W.length = n ∧ (∀ x, W[x]? = some true ↔ x ∈ T) ∧ W.count true = T.length ∧ Que (fInit F) (fEdge E) n (fun _ => False) C T ∧
      s' = ⟨117, [(1, .d (.sl 1 24 (E.map encE))), (6, .own 21 1 n false), (9, .ref 9 0), (10, .ref 10 0), (11, .fn 118 [.ref 10 0, .ref 9 0])], [(21, ⟨3, C.map V.n, false, 1⟩), (9, ⟨40, [.que 100 1 pre.length T.length], false, 0⟩), (100, ⟨3, (pre ++ T).map V.n, false, 1⟩), (10, ⟨107, [.own 41 1 n false], false, 0⟩), (41, ⟨4, W.map V.b, false, 1⟩)], []⟩) ⟨_, _, ?_, C, W, [], T, Nat.le_refl _, hW, hWT, hcnt, hque, rfl⟩ ?_
     ·exact (Less.of rfl (by repeat (first | exact trivial | refine ⟨⟨_, rfl, Wk.refl _⟩, ?_⟩ | refine ⟨⟨_, rfl, Wk.nil _ _⟩, ?_⟩ | refine ⟨⟨_, rfl, Wk.junk _⟩, ?_⟩)) (by repeat (first | exact trivial | refine ⟨rfl, ?_⟩)) rfl)
     rintro μ s' ⟨C, W, pre, T, hμ, hW, hWT, hcnt, hque, rfl⟩
     by_cases hTe : T = []
     ·have hCD := hque.done hTe hin
      rw [hD] at hCD
      obtain ⟨t, ht⟩ : ∃ t, T.length = t := ⟨_, rfl⟩
      have hz : ¬ 0 < t := by rw [← ht, hTe]; simp
      rw [ht]
      subst hCD
      refine AW.seq ?_
      refine AW.seq ?_
      refine AW.region ?_
      refine AL.rd rfl rfl (rd_load_ref Try.underlying40 rfl rfl rfl rfl rfl rfl) ?_
      refine AL.rp rfl rfl (rp_len_que Try.underlying40 rfl rfl) ?_
      (refine AL.rp rfl rfl (rp_gtrF rfl rfl rfl (by first | assumption | omega | (dsimp only; omega))) ?_)
      refine AL.nil ?_
      try simp only [thenS, S.put]
      refine AW.condF rfl ?_
      refine AW.exit ?_
      try simp only [thenS, inBlockS, ↓reduceIte, Nat.reduceEqDiff]
      refine ⟨_, ?_, rfl⟩
      exact (Less.of rfl (by repeat (first | exact trivial | refine ⟨⟨_, rfl, Wk.refl _⟩, ?_⟩ | refine ⟨⟨_, rfl, Wk.nil _ _⟩, ?_⟩ | refine ⟨⟨_, rfl, Wk.junk _⟩, ?_⟩)) (by repeat (first | exact trivial | refine ⟨rfl, ?_⟩)) rfl)
     ·obtain ⟨q, T', rfl⟩ : ∃ q T', T = q :: T' := by cases T with | nil => exact absurd rfl hTe | cons q T' => exact ⟨q, T', rfl⟩
      obtain ⟨t, ht⟩ : ∃ t, T'.length = t := ⟨_, rfl⟩
      have hlen : (q :: T').length = t + 1 := by simp [ht]
      rw [hlen] at hμ hcnt ⊢
      obtain ⟨xq, hxq, hxb⟩ := hque.fin q (by simp)
      have hqn : q < n := by have := (List.getElem?_eq_some_iff.1 hxq).1; rw [hque.snd.len] at this; exact this
      obtain ⟨hqT, hque⟩ := hque.take
      obtain ⟨l, hl⟩ := get_lt hE hqn
      obtain ⟨hll, hlp⟩ := hEl l (List.mem_of_getElem? hl)
      obtain ⟨la, hla⟩ : ∃ n, l.length = n := ⟨_, rfl⟩
      rw [hla] at hll
      have hq0 : (pre ++ q :: T')[pre.length + 0]? = some q := by rw [Nat.add_zero, List.getElem?_append_right (Nat.le_refl _)]; simp
      have hWq : W[q]? = some true := (hWT q).2 (by simp)
      have hqW : q < W.length := by omega
      have hcc := count_clear W hWq
      have hpl : (pre ++ [q]).length = pre.length + 1 := by simp
      refine AW.seq ?_
      refine AW.seq ?_
      refine AW.region ?_
      refine AL.rd rfl rfl (rd_load_ref Try.underlying40 rfl rfl rfl rfl rfl rfl) ?_
      refine AL.rp rfl rfl (rp_len_que Try.underlying40 rfl rfl) ?_
      (refine AL.rp rfl rfl (rp_gtrT rfl rfl rfl (by first | assumption | omega | (dsimp only; omega))) ?_)
      refine AL.nil ?_
      try simp only [thenS, S.put]
      refine AW.condT rfl ?_
      refine AW.skip ?_
      try simp only [thenS]
      refine AW.block ?_
      refine AW.seq ?_
      refine AW.region ?_
      refine AL.rd rfl rfl (rd_load_ref Try.underlying40 rfl rfl rfl rfl rfl rfl) ?_
      refine AL.rp rfl rfl (rp_index_que (j := 0) Try.underlying40 inf3 rfl rfl rfl (by omega) (by omega)) ?_
      refine AL.rd rfl rfl (rd_load_map Try.underlying3 rfl rfl rfl rfl rfl rfl (by assumption)) ?_
      refine AL.rp rfl rfl (rp_assign rfl rfl) ?_
      refine AL.nil ?_
      try simp only [thenS, S.put]
      refine AW.seq ?_
      refine AW.region ?_
      refine AL.rd rfl rfl (rd_load_ref Try.underlying40 rfl rfl rfl rfl rfl rfl) ?_
      refine AL.rd rfl rfl (rd_slice_que (j := 1) Try.underlying40 inf3 rfl rfl rfl (by omega) (by omega)) ?_
      (refine AL.st rfl (st_store inf40 rfl rfl rfl rfl rfl rfl rfl (by first | decide | (simp; done)) rfl) ?_)
      refine AL.nil ?_
      try simp only [thenS, S.put, S.newObj, setL, V.cs, List.length_cons, List.length_nil, List.take_succ_cons, List.take_zero, List.drop_succ_cons, List.drop_zero, List.drop_nil, List.nil_append, List.cons_append, List.append_nil, Nat.zero_add, Nat.reduceAdd, List.map_cons, List.map_nil, List.set_cons_zero, List.set_cons_succ]
      refine AW.seq ?_
      refine AW.region ?_
      refine AL.rd rfl rfl (rd_load_ref Try.underlying107 rfl rfl rfl rfl rfl rfl) ?_
      refine AL.rp rfl rfl (rp_move rfl rfl) ?_
      refine AL.rp rfl rfl (rp_index_own Try.underlying107 inf4 rfl rfl rfl rfl (by first | assumption | omega)) ?_
      refine AL.st rfl (st_store_map2 inf4 rfl rfl rfl rfl rfl rfl rfl rfl (by first | assumption | omega)) ?_
      refine AL.nil ?_
      try simp only [thenS, S.put, S.newObj, setL, V.cs, List.length_cons, List.length_nil, List.take_succ_cons, List.take_zero, List.drop_succ_cons, List.drop_zero, List.drop_nil, List.nil_append, List.cons_append, List.append_nil, Nat.zero_add, Nat.reduceAdd, List.map_cons, List.map_nil, List.set_cons_zero, List.set_cons_succ]
      refine AW.seq ?_
      refine AW.region ?_
      refine AL.rp rfl rfl (rp_move rfl rfl) ?_
      refine AL.rp rfl rfl (rp_move rfl rfl) ?_
      refine AL.rp rfl rfl (rp_index_map Try.underlying110 inf111 rfl rfl rfl rfl (by assumption)) ?_
      refine AL.rd rfl rfl (rd_load_ad Try.underlying111 rfl rfl rfl rfl) ?_
      refine AL.rp rfl rfl (rp_len_map Try.underlying111 rfl rfl (by assumption)) ?_
      refine AL.rp rfl rfl (rp_move rfl rfl) ?_
      refine AL.nil ?_
      try simp only [thenS, S.put]
      refine AW.block ?_
      refine AW.loop (fun s' => ∃ (i : Nat) (C : List Nat) (W : List Bool) (pre T : List Nat), i ≤ la ∧ 2 * C.sum + T.length < μ ∧ W.length = n ∧ (∀ x, W[x]? = some true ↔ x ∈ T) ∧ W.count true = T.length ∧ Que (fInit F) (fEdge E) n (fun x => x = q) C T ∧ C[q]? = some xq ∧ (∀ (j : Nat) (e : Nat × Nat) (y : Nat), j < i → l[j]? = some e → C[e.1]? = some y → y ≤ xq + e.2) ∧
       s' = ⟨117, [(1, .d (.sl 1 24 (E.map encE))), (6, .own 21 1 n false), (9, .ref 9 0), (10, .ref 10 0), (11, .fn 118 [.ref 10 0, .ref 9 0]), (13, .i q), (71, .d (.sl 2 16 (l.map fun e => [.p (.int .i64 (e.1 : Int)), .p (.int .i64 (e.2 : Int))]))), (72, .i la), (73, .i i)], [(21, ⟨3, C.map V.n, false, 1⟩), (9, ⟨40, [.que 100 1 pre.length T.length], false, 0⟩), (100, ⟨3, (pre ++ T).map V.n, false, 1⟩), (10, ⟨107, [.own 41 1 n false], false, 0⟩), (41, ⟨4, W.map V.b, false, 1⟩)], []⟩) (fun s' => la - s'.nat 73) ⟨_, ?_, 0, C, W.set q false, pre ++ [q], T', by omega, by omega, by simpa using hW, fun x => ?_, by omega, hque, hxq, (fun j e y h => absurd h (by omega)), rfl⟩ ?_
      ·rw [hpl, ht]
       simp only [List.append_assoc, List.cons_append, List.nil_append]
       exact (Less.of rfl (by repeat (first | exact trivial | refine ⟨⟨_, rfl, Wk.refl _⟩, ?_⟩ | refine ⟨⟨_, rfl, Wk.nil _ _⟩, ?_⟩ | refine ⟨⟨_, rfl, Wk.junk _⟩, ?_⟩)) (by repeat (first | exact trivial | refine ⟨rfl, ?_⟩)) rfl)
      ·rw [List.getElem?_set]
       by_cases e : q = x
       ·subst e; simp [hqW, hqT]
       ·rw [if_neg e, hWT x]; simp [Ne.symm e]
      clear hμ hW hWT hcnt hque hxq hq0 hWq hqW hcc hpl ht hlen hqT hTe
      rintro s' ⟨i, C, W, pre, T, hi, hμ, hW, hWT, hcnt, hque, hxq, hdone, rfl⟩
      have hcl : W.count true ≤ W.length := List.count_le_length
      by_cases hil : i < la
      ·obtain ⟨e0, hy⟩ := get_lt hla hil
       have hmem : (e0.1, e0.2) ∈ l := List.mem_of_getElem? hy
       obtain ⟨hpn, hw9⟩ := hlp e0.1 e0.2 hmem
       have hedge : fEdge E q e0.1 e0.2 := ⟨l, hl, hmem⟩
       obtain ⟨y, hyC⟩ := get_lt hque.snd.len hpn
       have hyb := hque.snd.le _ _ hyC
       have hpC : e0.1 < C.length := by rw [hque.snd.len]; exact hpn
       by_cases hc : xq + e0.2 < y
       ·have hne : e0.1 ≠ q := by
         intro e
         rw [e, hxq] at hyC
         simp only [Option.some.injEq] at hyC
         omega
        have hlt' : ∀ z : Nat, C[e0.1]? = some z → xq + e0.2 < z := fun z hz => by rw [hyC] at hz; simp only [Option.some.injEq] at hz; omega
        have hsum := sum_set C e0.1 (xq + e0.2) y hyC hc
        have hxq' : (C.set e0.1 (xq + e0.2))[q]? = some xq := by rw [List.getElem?_set_ne hne]; exact hxq
        have hdone' : ∀ (j : Nat) (e : Nat × Nat) (z : Nat), j < i + 1 → l[j]? = some e → (C.set e0.1 (xq + e0.2))[e.1]? = some z → z ≤ xq + e.2 := by
         intro j e z hj he hz
         rw [List.getElem?_set] at hz
         by_cases ej : j = i
         ·subst ej
          rw [hy] at he
          simp only [Option.some.injEq] at he
          subst he
          simp [hpC] at hz
          omega
         ·split at hz
          ·rename_i e1
           simp only [Option.some.injEq] at hz
           have := hdone j e y (by omega) he (by rw [← e1]; exact hyC)
           omega
          ·exact hdone j e z (by omega) he hz
        obtain ⟨b, hb⟩ := get_lt hW hpn
        cases b with
        | true =>
         have hpT := (hWT e0.1).1 hb
         have hnext := hque.less hedge hxq hxb hpn hlt' (T' := T) (by rw [if_pos hpT])
         refine AW.seq ?_
         refine AW.region ?_
         (refine AL.rp rfl rfl (rp_lssT rfl rfl rfl (by first | assumption | omega | (dsimp only; omega))) ?_)
         refine AL.nil ?_
         try simp only [thenS, S.put]
         refine AW.seq ?_
         refine AW.condT rfl ?_
         refine AW.skip ?_
         try simp only [thenS]
         refine AW.seq ?_
         refine AW.block ?_
         refine AW.seq ?_
         refine AW.region ?_
         refine AL.rp rfl rfl (rp_index_map Try.underlying111 inf113 rfl rfl rfl rfl (by assumption)) ?_
         refine AL.rd rfl rfl (rd_loads_ad Try.underlying113 rfl inf113 rfl rfl rfl rfl) ?_
         refine AL.sm rfl (sm_alloc (l := [.d (.p (.int .i64 0)), .d (.p (.int .i64 0))]) 15 inf113 rfl (by simp [S.clean, S.put, S.newObj, S.forget, V.has, V.hasL, junkIf, setL, V.cs, hasL_i, hasL_b, hasL_s, hasL_n, hasL_rep, hasL_flat, hasL_append, -List.map_set]) rfl rfl) ?_
         refine AL.st rfl (st_store_any inf113 rfl rfl rfl rfl rfl rfl rfl rfl (by first | decide | (simp; done) | (simp; omega)) rfl) ?_
         refine AL.nil ?_
         try simp only [thenS, S.put, S.newObj, setL, V.cs, List.length_cons, List.length_nil, List.take_succ_cons, List.take_zero, List.drop_succ_cons, List.drop_zero, List.drop_nil, List.nil_append, List.cons_append, List.append_nil, Nat.zero_add, Nat.reduceAdd, List.map_cons, List.map_nil, List.set_cons_zero, List.set_cons_succ]
         refine AW.seq ?_
         refine AW.draw [(0, true), (1, true), (2, true), (3, true), (4, true), (5, true), (6, true), (7, true)] (fun i => !([] : List Nat).contains i) 8 (by kernel_rfl) (by kernel_rfl) rfl (by kernel_rfl) ?_
         refine AD1.rp rfl rfl rfl (fun _ _ h => h) (rp_move rfl rfl) ?_
         refine AD1.rp rfl rfl rfl (fun _ _ h => h) (rp_move rfl rfl) ?_
         refine AD1.rp rfl rfl rfl (fun _ _ h => h) (rp_index_own Try.underlying40 inf3 rfl rfl rfl rfl (by first | assumption | omega)) ?_
         refine AD1.rd rfl rfl rfl (fun _ _ h => h) (rd_load_map Try.underlying3 rfl rfl rfl rfl rfl rfl (by assumption)) ?_
         refine AD1.rp rfl rfl rfl (fun _ _ h => h) (rp_field_ref Try.underlying113 rfl rfl rfl inf3 (by decide) rfl) ?_
         refine AD1.rd rfl rfl rfl (fun _ _ h => h) (rd_load_ref Try.underlying3 rfl rfl rfl rfl rfl rfl) ?_
         refine AD1.rp rfl rfl rfl (fun _ _ h => h) (rp_add rfl rfl rfl (by first | omega | (dsimp only; omega))) ?_
         refine AD1.rp rfl rfl rfl (fun _ _ h => h) (rp_assign rfl rfl) ?_
         refine AD1.nil ?_
         try simp only [thenS, S.put]
         refine AW.seq ?_
         refine AW.region ?_
         refine AL.rp rfl rfl (rp_move rfl rfl) ?_
         refine AL.rp rfl rfl (rp_move rfl rfl) ?_
         refine AL.rp rfl rfl (rp_field_ref Try.underlying113 rfl rfl rfl inf3 (by decide) rfl) ?_
         refine AL.rd rfl rfl (rd_load_ref Try.underlying3 rfl rfl rfl rfl rfl rfl) ?_
         refine AL.rp rfl rfl (rp_index_own Try.underlying40 inf3 rfl rfl rfl rfl (by first | assumption | omega)) ?_
         refine AL.rd rfl rfl (rd_load_map Try.underlying3 rfl rfl rfl rfl rfl rfl (by assumption)) ?_
         (refine AL.rp rfl rfl (rp_lssT rfl rfl rfl (by first | assumption | omega | (dsimp only; omega))) ?_)
         refine AL.nil ?_
         try simp only [thenS, S.put]
         refine AW.condT rfl ?_
         refine AW.seq ?_
         refine AW.region ?_
         refine AL.rp rfl rfl (rp_move rfl rfl) ?_
         refine AL.rp rfl rfl (rp_field_ref Try.underlying113 rfl rfl rfl inf3 (by decide) rfl) ?_
         refine AL.rd rfl rfl (rd_load_ref Try.underlying3 rfl rfl rfl rfl rfl rfl) ?_
         refine AL.rp rfl rfl (rp_move rfl rfl) ?_
         refine AL.rp rfl rfl (rp_index_own Try.underlying40 inf3 rfl rfl rfl rfl (by first | assumption | omega)) ?_
         refine AL.st rfl (st_store_map2 (v := xq + e0.2) inf3 rfl rfl rfl rfl rfl rfl rfl rfl (by first | assumption | omega)) ?_
         refine AL.nil ?_
         try simp only [thenS, S.put, S.newObj, setL, V.cs, List.length_cons, List.length_nil, List.take_succ_cons, List.take_zero, List.drop_succ_cons, List.drop_zero, List.drop_nil, List.nil_append, List.cons_append, List.append_nil, Nat.zero_add, Nat.reduceAdd, List.map_cons, List.map_nil, List.set_cons_zero, List.set_cons_succ]
         refine AW.region ?_
         refine AL.rp rfl rfl (rp_move rfl rfl) ?_
         refine AL.rp rfl rfl (rp_field_ref Try.underlying113 rfl rfl rfl inf3 (by decide) rfl) ?_
         refine AL.rd rfl rfl (rd_load_ref Try.underlying3 rfl rfl rfl rfl rfl rfl) ?_
         refine AL.inline [1, 6, 9, 10, 11, 13, 71, 72, 73] (ts := [_, _, _, _, _, _, _, _, _]) (ars := [_]) rfl rfl ⟨Try.func118, rfl, rfl, rfl, rfl⟩ rfl rfl rfl (by simp) rfl fun kx => ?_
         try simp only [thenS, S.put, enum, List.nil_append, List.cons_append, List.append_nil, Nat.zero_add, Nat.reduceAdd]
         refine AW.seq ?_
         refine AW.region ?_
         refine AL.rd rfl rfl (rd_load_ref Try.underlying107 rfl rfl rfl rfl rfl rfl) ?_
         refine AL.rp rfl rfl (rp_move rfl rfl) ?_
         refine AL.rp rfl rfl (rp_index_own Try.underlying107 inf4 rfl rfl rfl rfl (by first | assumption | omega)) ?_
         refine AL.rd rfl rfl (rd_load_map Try.underlying4 rfl rfl rfl rfl rfl rfl (by assumption)) ?_
         refine AL.rp rfl rfl (rp_not rfl rfl) ?_
         refine AL.nil ?_
         try simp only [thenS, S.put]
         refine AW.condF rfl ?_
         refine AW.skip ?_
         try simp only [thenS]
         refine ⟨[], trivial, ?_⟩
         try simp only [S.put, tupOf, List.zip_cons_cons, List.zip_nil_left, List.drop_succ_cons, List.drop_zero, List.length_cons, List.length_nil, Nat.zero_add, Nat.reduceAdd]
         refine AL.nil ?_
         try simp only [thenS, S.put]
         refine AW.region ?_
         refine AL.rp rfl rfl (rp_add rfl rfl rfl (by first | omega | (dsimp only; omega))) ?_
         refine AL.rp rfl rfl (rp_move rfl rfl) ?_
         refine AL.nil ?_
         try simp only [thenS, S.put]
         refine ⟨_, ?_, ⟨i + 1, C.set e0.1 (xq + e0.2), W, pre, T, by omega, by omega, hW, hWT, hcnt, hnext, hxq', hdone', rfl⟩, ?_⟩
         ·exact (Less.of rfl (by repeat (first | exact trivial | refine ⟨⟨_, rfl, Wk.refl _⟩, ?_⟩ | refine ⟨⟨_, rfl, Wk.nil _ _⟩, ?_⟩ | refine ⟨⟨_, rfl, Wk.junk _⟩, ?_⟩)) (by repeat (first | exact trivial | refine ⟨rfl, ?_⟩)) rfl)
         ·simp [S.nat, fnd]; omega
        | false =>
         have hpT : e0.1 ∉ T := fun h => by have := (hWT e0.1).2 h; rw [hb] at this; cases this
         have hnext := hque.less hedge hxq hxb hpn hlt' (T' := T ++ [e0.1]) (by rw [if_neg hpT])
         have hpW : e0.1 < W.length := by omega
         have hcs := (count_set W hb).1
         refine AW.seq ?_
         refine AW.region ?_
         (refine AL.rp rfl rfl (rp_lssT rfl rfl rfl (by first | assumption | omega | (dsimp only; omega))) ?_)
         refine AL.nil ?_
         try simp only [thenS, S.put]
         refine AW.seq ?_
         refine AW.condT rfl ?_
         refine AW.skip ?_
         try simp only [thenS]
         refine AW.seq ?_
         refine AW.block ?_
         refine AW.seq ?_
         refine AW.region ?_
         refine AL.rp rfl rfl (rp_index_map Try.underlying111 inf113 rfl rfl rfl rfl (by assumption)) ?_
         refine AL.rd rfl rfl (rd_loads_ad Try.underlying113 rfl inf113 rfl rfl rfl rfl) ?_
         refine AL.sm rfl (sm_alloc (l := [.d (.p (.int .i64 0)), .d (.p (.int .i64 0))]) 15 inf113 rfl (by simp [S.clean, S.put, S.newObj, S.forget, V.has, V.hasL, junkIf, setL, V.cs, hasL_i, hasL_b, hasL_s, hasL_n, hasL_rep, hasL_flat, hasL_append, -List.map_set]) rfl rfl) ?_
         refine AL.st rfl (st_store_any inf113 rfl rfl rfl rfl rfl rfl rfl rfl (by first | decide | (simp; done) | (simp; omega)) rfl) ?_
         refine AL.nil ?_
         try simp only [thenS, S.put, S.newObj, setL, V.cs, List.length_cons, List.length_nil, List.take_succ_cons, List.take_zero, List.drop_succ_cons, List.drop_zero, List.drop_nil, List.nil_append, List.cons_append, List.append_nil, Nat.zero_add, Nat.reduceAdd, List.map_cons, List.map_nil, List.set_cons_zero, List.set_cons_succ]
         refine AW.seq ?_
         refine AW.draw [(0, true), (1, true), (2, true), (3, true), (4, true), (5, true), (6, true), (7, true)] (fun i => !([] : List Nat).contains i) 8 (by kernel_rfl) (by kernel_rfl) rfl (by kernel_rfl) ?_
         refine AD1.rp rfl rfl rfl (fun _ _ h => h) (rp_move rfl rfl) ?_
         refine AD1.rp rfl rfl rfl (fun _ _ h => h) (rp_move rfl rfl) ?_
         refine AD1.rp rfl rfl rfl (fun _ _ h => h) (rp_index_own Try.underlying40 inf3 rfl rfl rfl rfl (by first | assumption | omega)) ?_
         refine AD1.rd rfl rfl rfl (fun _ _ h => h) (rd_load_map Try.underlying3 rfl rfl rfl rfl rfl rfl (by assumption)) ?_
         refine AD1.rp rfl rfl rfl (fun _ _ h => h) (rp_field_ref Try.underlying113 rfl rfl rfl inf3 (by decide) rfl) ?_
         refine AD1.rd rfl rfl rfl (fun _ _ h => h) (rd_load_ref Try.underlying3 rfl rfl rfl rfl rfl rfl) ?_
         refine AD1.rp rfl rfl rfl (fun _ _ h => h) (rp_add rfl rfl rfl (by first | omega | (dsimp only; omega))) ?_
         refine AD1.rp rfl rfl rfl (fun _ _ h => h) (rp_assign rfl rfl) ?_
         refine AD1.nil ?_
         try simp only [thenS, S.put]
         refine AW.seq ?_
         refine AW.region ?_
         refine AL.rp rfl rfl (rp_move rfl rfl) ?_
         refine AL.rp rfl rfl (rp_move rfl rfl) ?_
         refine AL.rp rfl rfl (rp_field_ref Try.underlying113 rfl rfl rfl inf3 (by decide) rfl) ?_
         refine AL.rd rfl rfl (rd_load_ref Try.underlying3 rfl rfl rfl rfl rfl rfl) ?_
         refine AL.rp rfl rfl (rp_index_own Try.underlying40 inf3 rfl rfl rfl rfl (by first | assumption | omega)) ?_
         refine AL.rd rfl rfl (rd_load_map Try.underlying3 rfl rfl rfl rfl rfl rfl (by assumption)) ?_
         (refine AL.rp rfl rfl (rp_lssT rfl rfl rfl (by first | assumption | omega | (dsimp only; omega))) ?_)
         refine AL.nil ?_
         try simp only [thenS, S.put]
         refine AW.condT rfl ?_
         refine AW.seq ?_
         refine AW.region ?_
         refine AL.rp rfl rfl (rp_move rfl rfl) ?_
         refine AL.rp rfl rfl (rp_field_ref Try.underlying113 rfl rfl rfl inf3 (by decide) rfl) ?_
         refine AL.rd rfl rfl (rd_load_ref Try.underlying3 rfl rfl rfl rfl rfl rfl) ?_
         refine AL.rp rfl rfl (rp_move rfl rfl) ?_
         refine AL.rp rfl rfl (rp_index_own Try.underlying40 inf3 rfl rfl rfl rfl (by first | assumption | omega)) ?_
         refine AL.st rfl (st_store_map2 (v := xq + e0.2) inf3 rfl rfl rfl rfl rfl rfl rfl rfl (by first | assumption | omega)) ?_
         refine AL.nil ?_
         try simp only [thenS, S.put, S.newObj, setL, V.cs, List.length_cons, List.length_nil, List.take_succ_cons, List.take_zero, List.drop_succ_cons, List.drop_zero, List.drop_nil, List.nil_append, List.cons_append, List.append_nil, Nat.zero_add, Nat.reduceAdd, List.map_cons, List.map_nil, List.set_cons_zero, List.set_cons_succ]
         refine AW.region ?_
         refine AL.rp rfl rfl (rp_move rfl rfl) ?_
         refine AL.rp rfl rfl (rp_field_ref Try.underlying113 rfl rfl rfl inf3 (by decide) rfl) ?_
         refine AL.rd rfl rfl (rd_load_ref Try.underlying3 rfl rfl rfl rfl rfl rfl) ?_
         refine AL.inline [1, 6, 9, 10, 11, 13, 71, 72, 73] (ts := [_, _, _, _, _, _, _, _, _]) (ars := [_]) rfl rfl ⟨Try.func118, rfl, rfl, rfl, rfl⟩ rfl rfl rfl (by simp) rfl fun kx => ?_
         try simp only [thenS, S.put, enum, List.nil_append, List.cons_append, List.append_nil, Nat.zero_add, Nat.reduceAdd]
         refine AW.seq ?_
         refine AW.region ?_
         refine AL.rd rfl rfl (rd_load_ref Try.underlying107 rfl rfl rfl rfl rfl rfl) ?_
         refine AL.rp rfl rfl (rp_move rfl rfl) ?_
         refine AL.rp rfl rfl (rp_index_own Try.underlying107 inf4 rfl rfl rfl rfl (by first | assumption | omega)) ?_
         refine AL.rd rfl rfl (rd_load_map Try.underlying4 rfl rfl rfl rfl rfl rfl (by assumption)) ?_
         refine AL.rp rfl rfl (rp_not rfl rfl) ?_
         refine AL.nil ?_
         try simp only [thenS, S.put]
         refine AW.condT rfl ?_
         refine AW.seq ?_
         refine AW.region ?_
         refine AL.rd rfl rfl (rd_load_ref Try.underlying107 rfl rfl rfl rfl rfl rfl) ?_
         refine AL.rp rfl rfl (rp_move rfl rfl) ?_
         refine AL.rp rfl rfl (rp_index_own Try.underlying107 inf4 rfl rfl rfl rfl (by first | assumption | omega)) ?_
         refine AL.st rfl (st_store_map2 inf4 rfl rfl rfl rfl rfl rfl rfl rfl (by first | assumption | omega)) ?_
         refine AL.nil ?_
         try simp only [thenS, S.put, S.newObj, setL, V.cs, List.length_cons, List.length_nil, List.take_succ_cons, List.take_zero, List.drop_succ_cons, List.drop_zero, List.drop_nil, List.nil_append, List.cons_append, List.append_nil, Nat.zero_add, Nat.reduceAdd, List.map_cons, List.map_nil, List.set_cons_zero, List.set_cons_succ]
         refine AW.region ?_
         refine AL.rd rfl rfl (rd_load_ref Try.underlying40 rfl rfl rfl rfl rfl rfl) ?_
         refine AL.rp rfl rfl (rp_move rfl rfl) ?_
         refine AL.sm rfl (sm_slice (vs := [(0, _)]) (zs := [.d (.p (.int .i64 0))]) 14 Try.underlying40 inf3 rfl rfl (by decide) (by decide) (by decide) rfl rfl rfl rfl (by simp [S.clean, S.put, S.newObj, S.forget, V.has, V.hasL, junkIf, setL, V.cs, hasL_i, hasL_b, hasL_s, hasL_n, hasL_rep, hasL_flat, hasL_append, -List.map_set]) rfl rfl) ?_
         refine AL.stq rfl (st_append_que Try.underlying40 inf3 rfl rfl rfl rfl rfl rfl rfl rfl (fun l => hasL_n _ l) rfl rfl rfl rfl rfl (by omega) (by decide) rfl) ?_
         intro pre2
         simp only [S.forget, S.put, S.newObj, junkIf, V.has, V.hasL, hasL_i, hasL_b, hasL_s, hasL_d, hasL_n, hasL_rep, hasL_flat, hasL_append, List.map_cons, List.map_nil, List.filter_cons, List.filter_nil, Nat.reduceBNe, Nat.reduceBEq, eq_self, bne_self_eq_false,  Bool.not_true, Bool.not_false, Bool.or_false, Bool.or_true, Bool.false_or, Bool.true_or, if_true, if_false, Bool.false_eq_true, ite_true, ite_false, ↓reduceIte, beq_self_eq_true, Nat.reduceEqDiff]
         (refine AL.st rfl (st_store inf40 rfl rfl rfl rfl rfl rfl rfl (by first | decide | (simp; done)) rfl) ?_)
         refine AL.nil ?_
         try simp only [thenS, S.put, S.newObj, setL, V.cs, List.length_cons, List.length_nil, List.take_succ_cons, List.take_zero, List.drop_succ_cons, List.drop_zero, List.drop_nil, List.nil_append, List.cons_append, List.append_nil, Nat.zero_add, Nat.reduceAdd, List.map_cons, List.map_nil, List.set_cons_zero, List.set_cons_succ]
         refine ⟨[], trivial, ?_⟩
         try simp only [S.put, tupOf, List.zip_cons_cons, List.zip_nil_left, List.drop_succ_cons, List.drop_zero, List.length_cons, List.length_nil, Nat.zero_add, Nat.reduceAdd]
         refine AL.nil ?_
         try simp only [thenS, S.put]
         refine AW.region ?_
         refine AL.rp rfl rfl (rp_add rfl rfl rfl (by first | omega | (dsimp only; omega))) ?_
         refine AL.rp rfl rfl (rp_move rfl rfl) ?_
         refine AL.nil ?_
         try simp only [thenS, S.put]
         refine ⟨_, ?_, ⟨i + 1, C.set e0.1 (xq + e0.2), W.set e0.1 true, pre2, T ++ [e0.1], by omega, by simp; omega, by simpa using hW, fun x => ?_, by simp; omega, hnext, hxq', hdone', rfl⟩, ?_⟩
         ·simp only [List.length_append, List.length_cons, List.length_nil, Nat.zero_add]
          exact (Less.of rfl (by repeat (first | exact trivial | refine ⟨⟨_, rfl, Wk.refl _⟩, ?_⟩ | refine ⟨⟨_, rfl, Wk.nil _ _⟩, ?_⟩ | refine ⟨⟨_, rfl, Wk.junk _⟩, ?_⟩)) (by repeat (first | exact trivial | refine ⟨rfl, ?_⟩)) rfl)
         ·rw [List.getElem?_set, List.mem_append, ← hWT x]
          by_cases e : e0.1 = x
          ·subst e; simp [hpW]
          ·simp [e, Ne.symm e]
         ·simp [S.nat, fnd]; omega
       ·skip
        refine AW.seq ?_
        refine AW.region ?_
        (refine AL.rp rfl rfl (rp_lssT rfl rfl rfl (by first | assumption | omega | (dsimp only; omega))) ?_)
        refine AL.nil ?_
        try simp only [thenS, S.put]
        refine AW.seq ?_
        refine AW.condT rfl ?_
        refine AW.skip ?_
        try simp only [thenS]
        refine AW.seq ?_
        refine AW.block ?_
        refine AW.seq ?_
        refine AW.region ?_
        refine AL.rp rfl rfl (rp_index_map Try.underlying111 inf113 rfl rfl rfl rfl (by assumption)) ?_
        refine AL.rd rfl rfl (rd_loads_ad Try.underlying113 rfl inf113 rfl rfl rfl rfl) ?_
        refine AL.sm rfl (sm_alloc (l := [.d (.p (.int .i64 0)), .d (.p (.int .i64 0))]) 15 inf113 rfl (by simp [S.clean, S.put, S.newObj, S.forget, V.has, V.hasL, junkIf, setL, V.cs, hasL_i, hasL_b, hasL_s, hasL_n, hasL_rep, hasL_flat, hasL_append, -List.map_set]) rfl rfl) ?_
        refine AL.st rfl (st_store_any inf113 rfl rfl rfl rfl rfl rfl rfl rfl (by first | decide | (simp; done) | (simp; omega)) rfl) ?_
        refine AL.nil ?_
        try simp only [thenS, S.put, S.newObj, setL, V.cs, List.length_cons, List.length_nil, List.take_succ_cons, List.take_zero, List.drop_succ_cons, List.drop_zero, List.drop_nil, List.nil_append, List.cons_append, List.append_nil, Nat.zero_add, Nat.reduceAdd, List.map_cons, List.map_nil, List.set_cons_zero, List.set_cons_succ]
        refine AW.seq ?_
        refine AW.draw [(0, true), (1, true), (2, true), (3, true), (4, true), (5, true), (6, true), (7, true)] (fun i => !([] : List Nat).contains i) 8 (by kernel_rfl) (by kernel_rfl) rfl (by kernel_rfl) ?_
        refine AD1.rp rfl rfl rfl (fun _ _ h => h) (rp_move rfl rfl) ?_
        refine AD1.rp rfl rfl rfl (fun _ _ h => h) (rp_move rfl rfl) ?_
        refine AD1.rp rfl rfl rfl (fun _ _ h => h) (rp_index_own Try.underlying40 inf3 rfl rfl rfl rfl (by first | assumption | omega)) ?_
        refine AD1.rd rfl rfl rfl (fun _ _ h => h) (rd_load_map Try.underlying3 rfl rfl rfl rfl rfl rfl (by assumption)) ?_
        refine AD1.rp rfl rfl rfl (fun _ _ h => h) (rp_field_ref Try.underlying113 rfl rfl rfl inf3 (by decide) rfl) ?_
        refine AD1.rd rfl rfl rfl (fun _ _ h => h) (rd_load_ref Try.underlying3 rfl rfl rfl rfl rfl rfl) ?_
        refine AD1.rp rfl rfl rfl (fun _ _ h => h) (rp_add rfl rfl rfl (by first | omega | (dsimp only; omega))) ?_
        refine AD1.rp rfl rfl rfl (fun _ _ h => h) (rp_assign rfl rfl) ?_
        refine AD1.nil ?_
        try simp only [thenS, S.put]
        refine AW.seq ?_
        refine AW.region ?_
        refine AL.rp rfl rfl (rp_move rfl rfl) ?_
        refine AL.rp rfl rfl (rp_move rfl rfl) ?_
        refine AL.rp rfl rfl (rp_field_ref Try.underlying113 rfl rfl rfl inf3 (by decide) rfl) ?_
        refine AL.rd rfl rfl (rd_load_ref Try.underlying3 rfl rfl rfl rfl rfl rfl) ?_
        refine AL.rp rfl rfl (rp_index_own Try.underlying40 inf3 rfl rfl rfl rfl (by first | assumption | omega)) ?_
        refine AL.rd rfl rfl (rd_load_map Try.underlying3 rfl rfl rfl rfl rfl rfl (by assumption)) ?_
        (refine AL.rp rfl rfl (rp_lssF rfl rfl rfl (by first | assumption | omega | (dsimp only; omega))) ?_)
        refine AL.nil ?_
        try simp only [thenS, S.put]
        refine AW.condF rfl ?_
        refine AW.skip ?_
        try simp only [thenS]
        refine AW.region ?_
        refine AL.rp rfl rfl (rp_add rfl rfl rfl (by first | omega | (dsimp only; omega))) ?_
        refine AL.rp rfl rfl (rp_move rfl rfl) ?_
        refine AL.nil ?_
        try simp only [thenS, S.put]
        refine ⟨_, ?_, ⟨i + 1, C, W, pre, T, by omega, hμ, hW, hWT, hcnt, hque, hxq, fun j e z hj he hz => ?_, rfl⟩, ?_⟩
        ·exact (Less.of rfl (by repeat (first | exact trivial | refine ⟨⟨_, rfl, Wk.refl _⟩, ?_⟩ | refine ⟨⟨_, rfl, Wk.nil _ _⟩, ?_⟩ | refine ⟨⟨_, rfl, Wk.junk _⟩, ?_⟩)) (by repeat (first | exact trivial | refine ⟨rfl, ?_⟩)) rfl)
        ·by_cases ej : j = i
         ·subst ej
          rw [hy] at he
          simp only [Option.some.injEq] at he
          subst he
          rw [hyC] at hz
          simp only [Option.some.injEq] at hz
          omega
         ·exact hdone j e z (by omega) he hz
        ·simp [S.nat, fnd]; omega
      ·skip
       refine AW.seq ?_
       refine AW.region ?_
       (refine AL.rp rfl rfl (rp_lssF rfl rfl rfl (by first | assumption | omega | (dsimp only; omega))) ?_)
       refine AL.nil ?_
       try simp only [thenS, S.put]
       refine AW.seq ?_
       refine AW.condF rfl ?_
       refine AW.exit ?_
       try simp only [thenS, inBlockS, ↓reduceIte, Nat.reduceEqDiff]
       refine ⟨_, _, ?_, ⟨C, W, pre, T, Nat.le_refl _, hW, hWT, hcnt, hque.settle fun p w x z he hx hz => ?_, rfl⟩, hμ⟩
       ·exact (Less.of rfl (by repeat (first | exact trivial | refine ⟨⟨_, rfl, Wk.refl _⟩, ?_⟩ | refine ⟨⟨_, rfl, Wk.nil _ _⟩, ?_⟩ | refine ⟨⟨_, rfl, Wk.junk _⟩, ?_⟩)) (by repeat (first | exact trivial | refine ⟨rfl, ?_⟩)) rfl)
       ·rw [hxq] at hx
        simp only [Option.some.injEq] at hx
        subst hx
        obtain ⟨l', h1, h2⟩ := he
        rw [hl] at h1
        simp only [Option.some.injEq] at h1
        subst h1
        obtain ⟨j, hj⟩ := List.getElem?_of_mem h2
        exact hdone j (p, w) z (by have := (List.getElem?_eq_some_iff.1 hj).1; omega) hj hz
   ·rintro s' rfl
    clear hsnd hCl
    refine AW.seq ?_
    refine AW.seq ?_
    refine AW.region ?_
    refine AL.rp rfl rfl (rp_move rfl rfl) ?_
    refine AL.rp rfl rfl (rp_len_own Try.underlying40 rfl rfl) ?_
    refine AL.rp rfl rfl (rp_move rfl rfl) ?_
    refine AL.nil ?_
    try simp only [thenS, S.put]
    refine AW.block ?_
    refine AW.loop (fun s' => ∃ k : Nat, k ≤ n ∧ (∀ j x : Nat, j < k → D[j]? = some x → okD x = true) ∧ s' = ⟨117, [(6, .own 21 1 n false), (101, .own 21 1 n false), (102, .i n), (103, .i k)], [(21, ⟨3, (part tell k D).map V.n, false, 1⟩)], []⟩) (fun s' => n - s'.nat 103) ⟨_, ?_, 0, by omega, (fun j x h => absurd h (by omega)), rfl⟩ ?_
    ·rw [part_zero]; exact (Less.of rfl (by repeat (first | exact trivial | refine ⟨⟨_, rfl, Wk.refl _⟩, ?_⟩ | refine ⟨⟨_, rfl, Wk.nil _ _⟩, ?_⟩ | refine ⟨⟨_, rfl, Wk.junk _⟩, ?_⟩)) (by repeat (first | exact trivial | refine ⟨rfl, ?_⟩)) rfl)
    rintro s' ⟨k, hk, hok, rfl⟩
    by_cases hlt : k < n
    ·obtain ⟨x, hx⟩ := get_lt hDl hlt
     have hpx := part_get (f := tell) hx
     have hpl : k < (part tell k D).length := by rw [part_len]; omega
     have hxb := hDb x (List.mem_of_getElem? hx)
     have hokn : okD x = true → ∀ j z : Nat, j < k + 1 → D[j]? = some z → okD z = true := by
      intro h j z hj hz
      by_cases e : j = k
      ·subst e; rw [hx] at hz; simp only [Option.some.injEq] at hz; subst hz; exact h
      ·exact hok j z (by omega) hz
     by_cases hb : x = big
     ·have hst := part_set (f := tell) hx
      rw [show tell x = 1000000001 by simp [tell, hb]] at hst
      refine AW.seq ?_
      refine AW.region ?_
      (refine AL.rp rfl rfl (rp_lssT rfl rfl rfl (by first | assumption | omega | (dsimp only; omega))) ?_)
      refine AL.nil ?_
      try simp only [thenS, S.put]
      refine AW.seq ?_
      refine AW.condT rfl ?_
      refine AW.skip ?_
      try simp only [thenS]
      refine AW.seq ?_
      refine AW.block ?_
      refine AW.seq ?_
      refine AW.region ?_
      refine AL.rp rfl rfl (rp_move rfl rfl) ?_
      refine AL.rp rfl rfl (rp_index_own Try.underlying40 inf3 rfl rfl rfl rfl (by first | assumption | omega)) ?_
      refine AL.rd rfl rfl (rd_load_map Try.underlying3 rfl rfl rfl rfl rfl rfl (by assumption)) ?_
      refine AL.rp rfl rfl (rp_assign rfl rfl) ?_
      refine AL.rp rfl rfl (rp_assign rfl rfl) ?_
      refine AL.nil ?_
      try simp only [thenS, S.put]
      refine AW.seq ?_
      refine AW.region ?_
      refine AL.rp rfl rfl (rp_move rfl rfl) ?_
      (refine AL.rp rfl rfl (rp_eqlT rfl rfl rfl (by first | assumption | omega | (dsimp only; omega))) ?_)
      refine AL.nil ?_
      try simp only [thenS, S.put]
      refine AW.condT rfl ?_
      refine AW.region ?_
      refine AL.rp rfl rfl (rp_move rfl rfl) ?_
      refine AL.rp rfl rfl (rp_move rfl rfl) ?_
      refine AL.rp rfl rfl (rp_index_own Try.underlying40 inf3 rfl rfl rfl rfl (by first | assumption | omega)) ?_
      refine AL.st rfl (st_store_map2 (v := 1000000001) inf3 rfl rfl rfl rfl rfl rfl rfl rfl (by first | assumption | omega)) ?_
      refine AL.nil ?_
      try simp only [thenS, S.put, S.newObj, setL, V.cs, List.length_cons, List.length_nil, List.take_succ_cons, List.take_zero, List.drop_succ_cons, List.drop_zero, List.drop_nil, List.nil_append, List.cons_append, List.append_nil, Nat.zero_add, Nat.reduceAdd, List.map_cons, List.map_nil, List.set_cons_zero, List.set_cons_succ]
      refine AW.region ?_
      refine AL.rp rfl rfl (rp_add rfl rfl rfl (by first | omega | (dsimp only; omega))) ?_
      refine AL.rp rfl rfl (rp_move rfl rfl) ?_
      refine AL.nil ?_
      try simp only [thenS, S.put]
      refine ⟨_, ?_, ⟨k + 1, by omega, hokn (by simp [okD, hb]), rfl⟩, ?_⟩
      ·rw [← hst]; exact (Less.of rfl (by repeat (first | exact trivial | refine ⟨⟨_, rfl, Wk.refl _⟩, ?_⟩ | refine ⟨⟨_, rfl, Wk.nil _ _⟩, ?_⟩ | refine ⟨⟨_, rfl, Wk.junk _⟩, ?_⟩)) (by repeat (first | exact trivial | refine ⟨rfl, ?_⟩)) rfl)
      ·simp [S.nat, fnd]; omega
     ·by_cases hov : 1000000000 < x
      ·have hall : D.all okD = false := all_not hx (by simp [okD, hb]; omega)
       refine AW.seq ?_
       refine AW.region ?_
       (refine AL.rp rfl rfl (rp_lssT rfl rfl rfl (by first | assumption | omega | (dsimp only; omega))) ?_)
       refine AL.nil ?_
       try simp only [thenS, S.put]
       refine AW.seq ?_
       refine AW.condT rfl ?_
       refine AW.skip ?_
       try simp only [thenS]
       refine AW.seq ?_
       refine AW.block ?_
       refine AW.seq ?_
       refine AW.region ?_
       refine AL.rp rfl rfl (rp_move rfl rfl) ?_
       refine AL.rp rfl rfl (rp_index_own Try.underlying40 inf3 rfl rfl rfl rfl (by first | assumption | omega)) ?_
       refine AL.rd rfl rfl (rd_load_map Try.underlying3 rfl rfl rfl rfl rfl rfl (by assumption)) ?_
       refine AL.rp rfl rfl (rp_assign rfl rfl) ?_
       refine AL.rp rfl rfl (rp_assign rfl rfl) ?_
       refine AL.nil ?_
       try simp only [thenS, S.put]
       refine AW.seq ?_
       refine AW.region ?_
       refine AL.rp rfl rfl (rp_move rfl rfl) ?_
       (refine AL.rp rfl rfl (rp_eqlF rfl rfl rfl (by first | assumption | omega | (dsimp only; omega))) ?_)
       refine AL.nil ?_
       try simp only [thenS, S.put]
       refine AW.condF rfl ?_
       refine AW.seq ?_
       refine AW.region ?_
       refine AL.rp rfl rfl (rp_move rfl rfl) ?_
       (refine AL.rp rfl rfl (rp_gtrT rfl rfl rfl (by first | assumption | omega | (dsimp only; omega))) ?_)
       refine AL.nil ?_
       try simp only [thenS, S.put]
       refine AW.condT rfl ?_
       refine AW.seq ?_
       refine AW.region ?_
       refine AL.rp rfl rfl (rp_assign rfl rfl) ?_
       refine AL.rp rfl rfl (rp_assign rfl rfl) ?_
       refine AL.nil ?_
       try simp only [thenS, S.put]
       refine AW.ret ?_
       rw [hall] at hall0; cases hall0
      ·have hps := part_skip (f := tell) hx (by simp [tell, hb])
       refine AW.seq ?_
       refine AW.region ?_
       (refine AL.rp rfl rfl (rp_lssT rfl rfl rfl (by first | assumption | omega | (dsimp only; omega))) ?_)
       refine AL.nil ?_
       try simp only [thenS, S.put]
       refine AW.seq ?_
       refine AW.condT rfl ?_
       refine AW.skip ?_
       try simp only [thenS]
       refine AW.seq ?_
       refine AW.block ?_
       refine AW.seq ?_
       refine AW.region ?_
       refine AL.rp rfl rfl (rp_move rfl rfl) ?_
       refine AL.rp rfl rfl (rp_index_own Try.underlying40 inf3 rfl rfl rfl rfl (by first | assumption | omega)) ?_
       refine AL.rd rfl rfl (rd_load_map Try.underlying3 rfl rfl rfl rfl rfl rfl (by assumption)) ?_
       refine AL.rp rfl rfl (rp_assign rfl rfl) ?_
       refine AL.rp rfl rfl (rp_assign rfl rfl) ?_
       refine AL.nil ?_
       try simp only [thenS, S.put]
       refine AW.seq ?_
       refine AW.region ?_
       refine AL.rp rfl rfl (rp_move rfl rfl) ?_
       (refine AL.rp rfl rfl (rp_eqlF rfl rfl rfl (by first | assumption | omega | (dsimp only; omega))) ?_)
       refine AL.nil ?_
       try simp only [thenS, S.put]
       refine AW.condF rfl ?_
       refine AW.seq ?_
       refine AW.region ?_
       refine AL.rp rfl rfl (rp_move rfl rfl) ?_
       (refine AL.rp rfl rfl (rp_gtrF rfl rfl rfl (by first | assumption | omega | (dsimp only; omega))) ?_)
       refine AL.nil ?_
       try simp only [thenS, S.put]
       refine AW.condF rfl ?_
       refine AW.skip ?_
       try simp only [thenS]
       refine AW.region ?_
       refine AL.rp rfl rfl (rp_add rfl rfl rfl (by first | omega | (dsimp only; omega))) ?_
       refine AL.rp rfl rfl (rp_move rfl rfl) ?_
       refine AL.nil ?_
       try simp only [thenS, S.put]
       refine ⟨_, ?_, ⟨k + 1, by omega, hokn (by simp [okD]; omega), rfl⟩, ?_⟩
       ·rw [← hps]; exact (Less.of rfl (by repeat (first | exact trivial | refine ⟨⟨_, rfl, Wk.refl _⟩, ?_⟩ | refine ⟨⟨_, rfl, Wk.nil _ _⟩, ?_⟩ | refine ⟨⟨_, rfl, Wk.junk _⟩, ?_⟩)) (by repeat (first | exact trivial | refine ⟨rfl, ?_⟩)) rfl)
       ·simp [S.nat, fnd]; omega
    ·have hall : D.all okD = true := by
      rw [List.all_eq_true]
      intro x hx
      obtain ⟨j, hj⟩ := List.getElem?_of_mem hx
      exact hok j x (by have := (List.getElem?_eq_some_iff.1 hj).1; omega) hj
     rw [part_full _ (by omega)]
     refine AW.seq ?_
     refine AW.region ?_
     (refine AL.rp rfl rfl (rp_lssF rfl rfl rfl (by first | assumption | omega | (dsimp only; omega))) ?_)
     refine AL.nil ?_
     try simp only [thenS, S.put]
     refine AW.seq ?_
     refine AW.condF rfl ?_
     refine AW.exit ?_
     try simp only [thenS, inBlockS, ↓reduceIte, Nat.reduceEqDiff]
     refine AW.seq ?_
     refine AW.region ?_
     refine AL.rp rfl rfl (rp_move rfl rfl) ?_
     refine AL.rp rfl rfl (rp_assign rfl rfl) ?_
     refine AL.rp rfl rfl (rp_assign rfl rfl) ?_
     refine AL.nil ?_
     try simp only [thenS, S.put]
     refine AW.ret ?_
     exact ⟨[_, _], [(21, ⟨3, (D.map tell).map V.n, false, 1⟩)], ⟨rfl, rfl, trivial⟩, ⟨rfl, trivial⟩, ⟨rfl, rfl⟩, by simp [tupOf, V.has, V.hasL], fun r row k h1 h2 => by
      simp only [fnd, beq_iff_eq] at h1
      split at h1
      ·cases h1; rw [hasL_n] at h2; cases h2
      ·cases h1⟩
end Go.Proofs.Ytjbldphpkkmdpaa
