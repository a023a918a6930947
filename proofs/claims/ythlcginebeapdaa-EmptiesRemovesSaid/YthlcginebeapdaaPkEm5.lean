/- Part 5 of what the law EmptiesRemoves rests on. -/
import Derived.Laws.IdiomRangeMap
import Derived.Shelf.SlSortCmp.InsertionK
import Derived.Shelf.SlSortCmp.NoneTotal
import Derived.Test.YthlcginebeapdaaPkEm1
import Derived.Test.YthlcginebeapdaaPkEm2
import Derived.Test.YthlcginebeapdaaPkEm3
import Derived.Test.YthlcginebeapdaaPkEm4
namespace Go.Proofs.Ythlcginebeapdaa
open Go.RowKit
set_option linter.unusedSimpArgs false
set_option linter.unusedVariables false
set_option maxRecDepth 100000

theorem am_empty (y : Ar) (b : Bool) (hb : emp y = b) : Fn Try.prog 39 [.agg ((arD y).map V.d)] (fun v => v = .b b) := by
 subst hb
 obtain ⟨yi, yo, yw, yt⟩ := y
 refine Fn.intro (n := 11) ⟨Try.func39, rfl, rfl, rfl, rfl⟩ (by simp [V.pure, V.has, V.hasL]) (by simp) fun w0 out => ?_
 by_cases h1 : yi = 0
 ·by_cases h2 : yo = 0
  ·skip
   refine AW.seq ?_
   refine AW.region ?_
   refine AL.sm rfl (sm_box 1 rfl rfl rfl rfl rfl) ?_
   refine AL.rp rfl rfl (rp_assign rfl rfl) ?_
   refine AL.nil ?_
   try simp only [thenS, S.put, S.newObj, setL, V.cs, List.length_cons, List.length_nil, List.take_succ_cons, List.take_zero, List.drop_succ_cons, List.drop_zero, List.drop_nil, List.nil_append, List.cons_append, List.append_nil, Nat.zero_add, Nat.reduceAdd, List.map_cons, List.map_nil, List.set_cons_zero, List.set_cons_succ, enum]
   refine AW.seq ?_
   refine AW.region ?_
   refine AL.rp rfl rfl (rp_field_ref Try.underlying54 rfl rfl rfl inf3 (by decide) rfl) ?_
   refine AL.rd rfl rfl (rd_load_ref Try.underlying3 rfl rfl rfl rfl rfl rfl) ?_
   (refine AL.rp rfl rfl (rp_eqlT rfl rfl rfl (by first | assumption | omega | (dsimp only; omega))) ?_)
   refine AL.rp rfl rfl (rp_move rfl rfl) ?_
   refine AL.rpy rfl rfl rfl (rp_field_ref Try.underlying54 rfl rfl rfl inf3 (by decide) rfl) ?_
   refine AL.rdy rfl rfl rfl (rd_load_ref Try.underlying3 rfl rfl rfl rfl rfl rfl) ?_
   (refine AL.rpy rfl rfl rfl (rp_eqlT rfl rfl rfl (by first | assumption | omega | (dsimp only; omega))) ?_)
   refine AL.rp rfl rfl (rp_pick rfl rfl rfl) ?_
   refine AL.rp rfl rfl (rp_assign rfl rfl) ?_
   refine AL.nil ?_
   try simp only [thenS, S.put]
   refine AW.ret ?_
   exact ⟨[_], ⟨rfl, trivial⟩, by simp [tupOf, emp, h1, h2], by simp [tupOf, V.pure, V.has]⟩
  ·skip
   refine AW.seq ?_
   refine AW.region ?_
   refine AL.sm rfl (sm_box 1 rfl rfl rfl rfl rfl) ?_
   refine AL.rp rfl rfl (rp_assign rfl rfl) ?_
   refine AL.nil ?_
   try simp only [thenS, S.put, S.newObj, setL, V.cs, List.length_cons, List.length_nil, List.take_succ_cons, List.take_zero, List.drop_succ_cons, List.drop_zero, List.drop_nil, List.nil_append, List.cons_append, List.append_nil, Nat.zero_add, Nat.reduceAdd, List.map_cons, List.map_nil, List.set_cons_zero, List.set_cons_succ, enum]
   refine AW.seq ?_
   refine AW.region ?_
   refine AL.rp rfl rfl (rp_field_ref Try.underlying54 rfl rfl rfl inf3 (by decide) rfl) ?_
   refine AL.rd rfl rfl (rd_load_ref Try.underlying3 rfl rfl rfl rfl rfl rfl) ?_
   (refine AL.rp rfl rfl (rp_eqlT rfl rfl rfl (by first | assumption | omega | (dsimp only; omega))) ?_)
   refine AL.rp rfl rfl (rp_move rfl rfl) ?_
   refine AL.rpy rfl rfl rfl (rp_field_ref Try.underlying54 rfl rfl rfl inf3 (by decide) rfl) ?_
   refine AL.rdy rfl rfl rfl (rd_load_ref Try.underlying3 rfl rfl rfl rfl rfl rfl) ?_
   (refine AL.rpy rfl rfl rfl (rp_eqlF rfl rfl rfl (by first | assumption | omega | (dsimp only; omega))) ?_)
   refine AL.rp rfl rfl (rp_pick rfl rfl rfl) ?_
   refine AL.rp rfl rfl (rp_assign rfl rfl) ?_
   refine AL.nil ?_
   try simp only [thenS, S.put]
   refine AW.ret ?_
   exact ⟨[_], ⟨rfl, trivial⟩, by simp [tupOf, emp, h1, h2], by simp [tupOf, V.pure, V.has]⟩
 ·skip
  refine AW.seq ?_
  refine AW.region ?_
  refine AL.sm rfl (sm_box 1 rfl rfl rfl rfl rfl) ?_
  refine AL.rp rfl rfl (rp_assign rfl rfl) ?_
  refine AL.nil ?_
  try simp only [thenS, S.put, S.newObj, setL, V.cs, List.length_cons, List.length_nil, List.take_succ_cons, List.take_zero, List.drop_succ_cons, List.drop_zero, List.drop_nil, List.nil_append, List.cons_append, List.append_nil, Nat.zero_add, Nat.reduceAdd, List.map_cons, List.map_nil, List.set_cons_zero, List.set_cons_succ, enum]
  refine AW.seq ?_
  refine AW.region ?_
  refine AL.rp rfl rfl (rp_field_ref Try.underlying54 rfl rfl rfl inf3 (by decide) rfl) ?_
  refine AL.rd rfl rfl (rd_load_ref Try.underlying3 rfl rfl rfl rfl rfl rfl) ?_
  (refine AL.rp rfl rfl (rp_eqlF rfl rfl rfl (by first | assumption | omega | (dsimp only; omega))) ?_)
  refine AL.rp rfl rfl (rp_move rfl rfl) ?_
  refine AL.noV rfl rfl rfl rfl ?_
  refine AL.noV rfl rfl rfl rfl ?_
  refine AL.noV rfl rfl rfl rfl ?_
  refine AL.rp rfl rfl (rp_pick rfl rfl rfl) ?_
  refine AL.rp rfl rfl (rp_assign rfl rfl) ?_
  refine AL.nil ?_
  try simp only [thenS, S.put]
  refine AW.ret ?_
  exact ⟨[_], ⟨rfl, trivial⟩, by simp [tupOf, emp, h1], by simp [tupOf, V.pure, V.has]⟩
/-- How the program tells a cost: -1 is none. -/
def encM (x : Nat) : Int := if x = big then -1 else (x : Int)
theorem encM_big : encM big = -1 := by unfold encM; rw [if_pos rfl]
theorem encM_lt {x : Nat} (h : x < big) : encM x = (x : Int) := by unfold encM; rw [if_neg (by omega)]
theorem encM_get {L : List Nat} {p x : Nat} (h : L[p]? = some x) : (L.map encM)[p]? = some (encM x) := by rw [List.getElem?_map, h]; rfl
theorem encM_set (L : List Nat) (p x : Nat) : (L.map encM).set p (encM x) = (L.set p x).map encM := by rw [List.map_set]

set_option maxHeartbeats 2000000 in
theorem am_near (m : Mach) (q : Nat) (h0 : machE m = 0) (hq : q < m.states.length) : Fn Try.prog 38 [mV m, .i q] (fun v => v = .d (intsD ((bl (hop m.states q) m.states.length).map encM)) ∧ ∀ p, p < m.states.length → hop m.states q p < big → hop m.states q p ≤ 60000000000) := by
 have hz := machE_zero h0
 clear h0
 have hbig := big_eq
 obtain ⟨st, sts⟩ := m
 simp only at hz hq ⊢
 obtain ⟨n, hn⟩ : ∃ n, sts.length = n := ⟨_, rfl⟩
 obtain ⟨hz1, hz2, hz3, hz4⟩ := hz
 rw [hn] at hz1 hz3 hz4 hq ⊢
 have hw0 : ∀ q, ∀ a ∈ stA sts q, 0 ≤ a.w ∧ a.w ≤ 1000000000 ∧ 0 ≤ a.t ∧ a.t < n := by
  intro q a ha
  by_cases hql : q < n
  ·obtain ⟨x, hx⟩ := get_lt hn hql
   rw [stA_of hx] at ha
   have h3 := (hz4 x (List.mem_of_getElem? hx)).2 a ha
   simp only [arOk, decide_eq_true_eq] at h3
   omega
  ·rw [stA, List.getD_eq_getElem?_getD, List.getElem?_eq_none (by omega)] at ha
   simp at ha
 obtain ⟨D, hD⟩ : ∃ D, bl (hop sts q) n = D := ⟨_, rfl⟩
 have hDg : ∀ p, p < n → D[p]? = some (hop sts q p) := fun p hp => by rw [← hD]; exact bl_get hp
 rw [hD]
 refine Fn.intro (n := 113) ⟨Try.func38, rfl, rfl, rfl, rfl⟩ (by simp [V.pure, V.has, V.hasL]) (by simp) fun w0 out => ?_
 refine AW.seq ?_
 refine AW.region ?_
 refine AL.sm rfl (sm_box 2 rfl rfl rfl rfl rfl) ?_
 refine AL.rp rfl rfl (rp_assign rfl rfl) ?_
 refine AL.nil ?_
 try simp only [thenS, S.put, S.newObj, setL, V.cs, List.length_cons, List.length_nil, List.take_succ_cons, List.take_zero, List.drop_succ_cons, List.drop_zero, List.drop_nil, List.nil_append, List.cons_append, List.append_nil, Nat.zero_add, Nat.reduceAdd, List.map_cons, List.map_nil, List.set_cons_zero, List.set_cons_succ, enum]
 refine AW.seq ?_
 refine AW.region ?_
 refine AL.rp rfl rfl (rp_field_ref Try.underlying24 rfl rfl rfl inf22 (by decide) rfl) ?_
 refine AL.rd rfl rfl (rd_load_ref Try.underlying22 rfl rfl rfl rfl rfl rfl) ?_
 refine AL.rp rfl rfl (rp_len_map Try.underlying22 rfl rfl (by assumption)) ?_
 refine AL.sm rfl (sm_make_map 17 V.i (0) Try.underlying82 inf3 rfl rfl rfl rfl rfl (by omega) (by decide) rfl rfl) ?_
 refine AL.rp rfl rfl (rp_assign rfl rfl) ?_
 refine AL.nil ?_
 try simp only [thenS, S.put, S.newObj, setL, V.cs, List.length_cons, List.length_nil, List.take_succ_cons, List.take_zero, List.drop_succ_cons, List.drop_zero, List.drop_nil, List.nil_append, List.cons_append, List.append_nil, Nat.zero_add, Nat.reduceAdd, List.map_cons, List.map_nil, List.set_cons_zero, List.set_cons_succ]
 refine AW.seq ?_
 refine AW.seq ?_
 refine AW.region ?_
 refine AL.rp rfl rfl (rp_move rfl rfl) ?_
 refine AL.rp rfl rfl (rp_len_own Try.underlying82 rfl rfl) ?_
 refine AL.rp rfl rfl (rp_move rfl rfl) ?_
 refine AL.nil ?_
 try simp only [thenS, S.put]
 refine AW.block ?_
 refine AW.loop (fun s' => ∃ (k : Nat) (C : List Int), k ≤ n ∧ C.length = n ∧ (∀ j, j < k → C[j]? = some (-1)) ∧ s' = ⟨113, [(1, .i q), (2, .ref 2 0), (5, .own 17 1 n false), (19, .i n), (20, .i k)], [(2, ⟨24, [.i st, .d (stsD sts)], false, 0⟩), (17, ⟨3, C.map V.i, false, 1⟩)], []⟩) (fun s' => n - s'.nat 20) ⟨_, ?_, 0, List.replicate n 0, by omega, by simp, (fun j h => absurd h (by omega)), rfl⟩ ?_
 ·exact (Less.of rfl (by repeat (first | exact trivial | refine ⟨⟨_, rfl, Wk.refl _⟩, ?_⟩ | refine ⟨⟨_, rfl, Wk.nil _ _⟩, ?_⟩ | refine ⟨⟨_, rfl, Wk.junk _⟩, ?_⟩)) (by repeat (first | exact trivial | refine ⟨rfl, ?_⟩)) rfl)
 rintro s' ⟨k, C, hk, hCl, hC, rfl⟩
 by_cases hlt : k < n
 ·have hkC : k < C.length := by omega
  refine AW.seq ?_
  refine AW.region ?_
  (refine AL.rp rfl rfl (rp_lssT rfl rfl rfl (by first | assumption | omega | (dsimp only; omega))) ?_)
  refine AL.nil ?_
  try simp only [thenS, S.put]
  refine AW.seq ?_
  refine AW.condT rfl ?_
  refine AW.skip ?_
  try simp only [thenS]
  refine AW.seq ?_
  refine AW.block ?_
  refine AW.seq ?_
  refine AW.region ?_
  refine AL.rp rfl rfl (rp_move rfl rfl) ?_
  refine AL.rp rfl rfl (rp_assign rfl rfl) ?_
  refine AL.nil ?_
  try simp only [thenS, S.put]
  refine AW.region ?_
  refine AL.rp rfl rfl (rp_move rfl rfl) ?_
  refine AL.rp rfl rfl (rp_move rfl rfl) ?_
  refine AL.rp rfl rfl (rp_index_own Try.underlying82 inf3 rfl rfl rfl rfl (by first | assumption | omega)) ?_
  refine AL.st rfl (st_store_map2 inf3 rfl rfl rfl rfl rfl rfl rfl rfl (by first | assumption | omega)) ?_
  refine AL.nil ?_
  try simp only [thenS, S.put, S.newObj, setL, V.cs, List.length_cons, List.length_nil, List.take_succ_cons, List.take_zero, List.drop_succ_cons, List.drop_zero, List.drop_nil, List.nil_append, List.cons_append, List.append_nil, Nat.zero_add, Nat.reduceAdd, List.map_cons, List.map_nil, List.set_cons_zero, List.set_cons_succ]
  refine AW.region ?_
  refine AL.rp rfl rfl (rp_add rfl rfl rfl (by first | omega | (dsimp only; omega))) ?_
  refine AL.rp rfl rfl (rp_move rfl rfl) ?_
  refine AL.nil ?_
  try simp only [thenS, S.put]
  refine ⟨_, ?_, ⟨k + 1, C.set k (-1), by omega, by simpa using hCl, fun j hj => ?_, rfl⟩, ?_⟩
  ·exact (Less.of rfl (by repeat (first | exact trivial | refine ⟨⟨_, rfl, Wk.refl _⟩, ?_⟩ | refine ⟨⟨_, rfl, Wk.nil _ _⟩, ?_⟩ | refine ⟨⟨_, rfl, Wk.junk _⟩, ?_⟩)) (by repeat (first | exact trivial | refine ⟨rfl, ?_⟩)) rfl)
  ·rw [List.getElem?_set]
   by_cases e : k = j
   ·subst e; simp [hkC]
   ·rw [if_neg e]; exact hC j (by omega)
  ·simp [S.nat, fnd]; omega
 have hCq : C.set q 0 = (bl (fwI q) n).map encM := by
  refine List.ext_getElem? fun j => ?_
  by_cases hj : j < n
  ·rw [List.getElem?_map, bl_get hj, List.getElem?_set]
   by_cases e : q = j
   ·subst e; rw [if_pos rfl, if_pos (by omega)]; simp [fwI, encM, big]
   ·rw [if_neg e, hC j (by omega)]; simp [fwI, Ne.symm e, encM]
  ·rw [List.getElem?_eq_none (by simp; omega), List.getElem?_eq_none (by simp [bl]; omega)]
 have hqC : q < C.length := by omega
 refine AW.seq ?_
 refine AW.region ?_
 (refine AL.rp rfl rfl (rp_lssF rfl rfl rfl (by first | assumption | omega | (dsimp only; omega))) ?_)
 refine AL.nil ?_
 try simp only [thenS, S.put]
 refine AW.seq ?_
 refine AW.condF rfl ?_
 refine AW.exit ?_
 try simp only [thenS, inBlockS, ↓reduceIte, Nat.reduceEqDiff]
 refine AW.seq ?_
 refine AW.region ?_
 refine AL.rp rfl rfl (rp_move rfl rfl) ?_
 refine AL.rp rfl rfl (rp_move rfl rfl) ?_
 refine AL.rp rfl rfl (rp_index_own Try.underlying82 inf3 rfl rfl rfl rfl (by first | assumption | omega)) ?_
 refine AL.st rfl (st_store_map2 inf3 rfl rfl rfl rfl rfl rfl rfl rfl (by first | assumption | omega)) ?_
 refine AL.nil ?_
 try simp only [thenS, S.put, S.newObj, setL, V.cs, List.length_cons, List.length_nil, List.take_succ_cons, List.take_zero, List.drop_succ_cons, List.drop_zero, List.drop_nil, List.nil_append, List.cons_append, List.append_nil, Nat.zero_add, Nat.reduceAdd, List.map_cons, List.map_nil, List.set_cons_zero, List.set_cons_succ]
 refine AW.seq ?_
 refine AW.region ?_
 refine AL.rp rfl rfl (rp_field_ref Try.underlying24 rfl rfl rfl inf22 (by decide) rfl) ?_
 refine AL.rd rfl rfl (rd_load_ref Try.underlying22 rfl rfl rfl rfl rfl rfl) ?_
 refine AL.rp rfl rfl (rp_len_map Try.underlying22 rfl rfl (by assumption)) ?_
 refine AL.sm rfl (sm_make_map 33 V.b (false) Try.underlying103 inf4 rfl rfl rfl rfl rfl (by omega) (by decide) (by simp [S.clean, S.put, S.newObj, S.forget, V.has, V.hasL, junkIf, setL, V.cs, hasL_i, hasL_d, hasL_b, hasL_s, hasL_n, hasL_rep, hasL_flat, hasL_append, -List.map_set]) rfl) ?_
 refine AL.rp rfl rfl (rp_assign rfl rfl) ?_
 refine AL.nil ?_
 try simp only [thenS, S.put, S.newObj, setL, V.cs, List.length_cons, List.length_nil, List.take_succ_cons, List.take_zero, List.drop_succ_cons, List.drop_zero, List.drop_nil, List.nil_append, List.cons_append, List.append_nil, Nat.zero_add, Nat.reduceAdd, List.map_cons, List.map_nil, List.set_cons_zero, List.set_cons_succ]
 refine AW.block ?_
 rw [hCq]
 clear hlt hk hC hCl hCq hqC
 refine AW.loopN (fun μ s' => ∃ (L : List Nat) (C : List Int) (Dn : List Bool) (k : Nat), μ + k = n ∧ Nr sts q n L Dn k ∧ L.map encM = C ∧ s' = ⟨113, [(2, .ref 2 0), (5, .own 17 1 n false), (7, .own 33 1 n false)], [(2, ⟨24, [.i st, .d (stsD sts)], false, 0⟩), (17, ⟨3, C.map V.i, false, 1⟩), (33, ⟨4, Dn.map V.b, false, 1⟩)], []⟩) ⟨n, _, ?_, bl (fwI q) n, _, List.replicate n false, 0, by omega, nr_first sts q n, rfl, rfl⟩ ?_
 ·exact (Less.of rfl (by repeat (first | exact trivial | refine ⟨⟨_, rfl, Wk.refl _⟩, ?_⟩ | refine ⟨⟨_, rfl, Wk.nil _ _⟩, ?_⟩ | refine ⟨⟨_, rfl, Wk.junk _⟩, ?_⟩)) (by repeat (first | exact trivial | refine ⟨rfl, ?_⟩)) rfl)
 rintro μ s' ⟨L, C, Dn, k, hμ, hN, hC, rfl⟩
 have hCl : C.length = n := by rw [← hC, List.length_map, hN.snd.len]
 have hDl := hN.dl
 have hkn : k ≤ n := by omega
 have hCg : ∀ p x : Nat, L[p]? = some x → C[p]? = some (encM x) := fun p x h => hC ▸ encM_get h
 refine AW.block ?_
 refine AW.seq ?_
 refine AW.region ?_
 refine AL.rp rfl rfl (rp_assign rfl rfl) ?_
 refine AL.nil ?_
 try simp only [thenS, S.put]
 refine AW.seq ?_
 refine AW.seq ?_
 refine AW.region ?_
 refine AL.rp rfl rfl (rp_move rfl rfl) ?_
 refine AL.rp rfl rfl (rp_len_own Try.underlying82 rfl rfl) ?_
 refine AL.rp rfl rfl (rp_move rfl rfl) ?_
 refine AL.nil ?_
 try simp only [thenS, S.put]
 refine AW.block ?_
 refine AW.loop (fun s' => ∃ (i : Nat) (z : Int), i ≤ n ∧ (z = -1 ∧ (∀ p x : Nat, p < i → Dn[p]? = some false → L[p]? = some x → x = big) ∨ ∃ r y : Nat, z = (r : Int) ∧ r < n ∧ Dn[r]? = some false ∧ L[r]? = some y ∧ y < big ∧ ∀ p x : Nat, p < i → Dn[p]? = some false → L[p]? = some x → y ≤ x) ∧ s' = ⟨113, [(2, .ref 2 0), (5, .own 17 1 n false), (7, .own 33 1 n false), (8, .i z), (34, .own 17 1 n false), (35, .i n), (36, .i i)], [(2, ⟨24, [.i st, .d (stsD sts)], false, 0⟩), (17, ⟨3, C.map V.i, false, 1⟩), (33, ⟨4, Dn.map V.b, false, 1⟩)], []⟩) (fun s' => n - s'.nat 36) ⟨_, ?_, 0, -1, by omega, .inl ⟨rfl, fun p x h => absurd h (by omega)⟩, rfl⟩ ?_
 ·exact (Less.of rfl (by repeat (first | exact trivial | refine ⟨⟨_, rfl, Wk.refl _⟩, ?_⟩ | refine ⟨⟨_, rfl, Wk.nil _ _⟩, ?_⟩ | refine ⟨⟨_, rfl, Wk.junk _⟩, ?_⟩)) (by repeat (first | exact trivial | refine ⟨rfl, ?_⟩)) rfl)
 rintro s' ⟨i, z, hi, hzz, rfl⟩
 by_cases hlt : i < n
 ·obtain ⟨c, hc⟩ := get_lt hN.snd.len hlt
  obtain ⟨b, hb⟩ := get_lt hDl hlt
  have hcb := hN.snd.le i c hc
  have hcC := hCg i c hc
  by_cases hcbig : c = big
  ·subst hcbig
   rw [encM_big] at hcC
   refine AW.seq ?_
   refine AW.region ?_
   (refine AL.rp rfl rfl (rp_lssT rfl rfl rfl (by first | assumption | omega | (dsimp only; omega))) ?_)
   refine AL.nil ?_
   try simp only [thenS, S.put]
   refine AW.seq ?_
   refine AW.condT rfl ?_
   refine AW.skip ?_
   try simp only [thenS]
   refine AW.seq ?_
   refine AW.block ?_
   refine AW.seq ?_
   refine AW.region ?_
   refine AL.rp rfl rfl (rp_move rfl rfl) ?_
   refine AL.rp rfl rfl (rp_index_own Try.underlying82 inf3 rfl rfl rfl rfl (by first | assumption | omega)) ?_
   refine AL.rd rfl rfl (rd_load_map Try.underlying3 rfl rfl rfl rfl rfl rfl (by assumption)) ?_
   refine AL.rp rfl rfl (rp_assign rfl rfl) ?_
   refine AL.rp rfl rfl (rp_assign rfl rfl) ?_
   refine AL.nil ?_
   try simp only [thenS, S.put]
   refine AW.seq ?_
   refine AW.region ?_
   refine AL.rp rfl rfl (rp_move rfl rfl) ?_
   (refine AL.rp rfl rfl (rp_geqF rfl rfl rfl (by first | assumption | omega | (dsimp only; omega))) ?_)
   refine AL.rp rfl rfl (rp_move rfl rfl) ?_
   refine AL.noV rfl rfl rfl rfl ?_
   refine AL.noV rfl rfl rfl rfl ?_
   refine AL.noV rfl rfl rfl rfl ?_
   refine AL.noV rfl rfl rfl rfl ?_
   refine AL.noV rfl rfl rfl rfl ?_
   refine AL.rp rfl rfl (rp_pick rfl rfl rfl) ?_
   refine AL.rp rfl rfl (rp_move rfl rfl) ?_
   refine AL.noV rfl rfl rfl rfl ?_
   refine AL.noV rfl rfl rfl rfl ?_
   refine AL.noV rfl rfl rfl rfl ?_
   refine AL.noU rfl ⟨_, rfl, rfl⟩ rfl ?_
   refine AL.noU rfl ⟨_, rfl, rfl⟩ rfl ?_
   refine AL.noU rfl ⟨_, rfl, rfl⟩ rfl ?_
   refine AL.noU rfl ⟨_, rfl, rfl⟩ rfl ?_
   refine AL.noU rfl ⟨_, rfl, rfl⟩ rfl ?_
   refine AL.noU rfl ⟨_, rfl, rfl⟩ rfl ?_
   refine AL.noV rfl rfl rfl rfl ?_
   refine AL.rp rfl rfl (rp_pick rfl rfl rfl) ?_
   refine AL.nil ?_
   try simp only [thenS, S.put]
   refine AW.condF rfl ?_
   refine AW.skip ?_
   try simp only [thenS]
   refine AW.region ?_
   refine AL.rp rfl rfl (rp_add rfl rfl rfl (by first | omega | (dsimp only; omega))) ?_
   refine AL.rp rfl rfl (rp_move rfl rfl) ?_
   refine AL.nil ?_
   try simp only [thenS, S.put]
   refine ⟨_, ?_, ⟨i + 1, z, by omega, ?_, rfl⟩, ?_⟩
   ·exact (Less.of rfl (by repeat (first | exact trivial | refine ⟨⟨_, rfl, Wk.refl _⟩, ?_⟩ | refine ⟨⟨_, rfl, Wk.nil _ _⟩, ?_⟩ | refine ⟨⟨_, rfl, Wk.junk _⟩, ?_⟩)) (by repeat (first | exact trivial | refine ⟨rfl, ?_⟩)) rfl)
   ·rcases hzz with ⟨h1, h2⟩ | ⟨r, y, h1, h2, h3, h4, h5, h6⟩
    ·refine .inl ⟨h1, fun p x hp h3 h4 => ?_⟩
     by_cases e : p = i
     ·subst e; rw [hc] at h4; exact (Option.some.inj h4).symm
     ·exact h2 p x (by omega) h3 h4
    ·refine .inr ⟨r, y, h1, h2, h3, h4, h5, fun p x hp h7 h8 => ?_⟩
     by_cases e : p = i
     ·subst e; rw [hc] at h8; have := Option.some.inj h8; omega
     ·exact h6 p x (by omega) h7 h8
   ·simp [S.nat, fnd]; omega
  have hc1 : c < big := by omega
  rw [encM_lt hc1] at hcC
  have hskip : b = true → ∀ (z : Int), (z = -1 ∧ (∀ p x : Nat, p < i → Dn[p]? = some false → L[p]? = some x → x = big) ∨ ∃ r y : Nat, z = (r : Int) ∧ r < n ∧ Dn[r]? = some false ∧ L[r]? = some y ∧ y < big ∧ ∀ p x : Nat, p < i → Dn[p]? = some false → L[p]? = some x → y ≤ x) → (z = -1 ∧ (∀ p x : Nat, p < i + 1 → Dn[p]? = some false → L[p]? = some x → x = big) ∨ ∃ r y : Nat, z = (r : Int) ∧ r < n ∧ Dn[r]? = some false ∧ L[r]? = some y ∧ y < big ∧ ∀ p x : Nat, p < i + 1 → Dn[p]? = some false → L[p]? = some x → y ≤ x) := by
   intro hbt z hzz
   subst hbt
   rcases hzz with ⟨h1, h2⟩ | ⟨r, y, h1, h2, h3, h4, h5, h6⟩
   ·refine .inl ⟨h1, fun p x hp h3 h4 => ?_⟩
    by_cases e : p = i
    ·subst e; rw [hb] at h3; cases h3
    ·exact h2 p x (by omega) h3 h4
   ·refine .inr ⟨r, y, h1, h2, h3, h4, h5, fun p x hp h7 h8 => ?_⟩
    by_cases e : p = i
    ·subst e; rw [hb] at h7; cases h7
    ·exact h6 p x (by omega) h7 h8
  cases b with
  | true =>
   have hs := hskip rfl z hzz
   clear hzz hskip
   refine AW.seq ?_
   refine AW.region ?_
   (refine AL.rp rfl rfl (rp_lssT rfl rfl rfl (by first | assumption | omega | (dsimp only; omega))) ?_)
   refine AL.nil ?_
   try simp only [thenS, S.put]
   refine AW.seq ?_
   refine AW.condT rfl ?_
   refine AW.skip ?_
   try simp only [thenS]
   refine AW.seq ?_
   refine AW.block ?_
   refine AW.seq ?_
   refine AW.region ?_
   refine AL.rp rfl rfl (rp_move rfl rfl) ?_
   refine AL.rp rfl rfl (rp_index_own Try.underlying82 inf3 rfl rfl rfl rfl (by first | assumption | omega)) ?_
   refine AL.rd rfl rfl (rd_load_map Try.underlying3 rfl rfl rfl rfl rfl rfl (by assumption)) ?_
   refine AL.rp rfl rfl (rp_assign rfl rfl) ?_
   refine AL.rp rfl rfl (rp_assign rfl rfl) ?_
   refine AL.nil ?_
   try simp only [thenS, S.put]
   refine AW.seq ?_
   refine AW.region ?_
   refine AL.rp rfl rfl (rp_move rfl rfl) ?_
   (refine AL.rp rfl rfl (rp_geqT rfl rfl rfl (by first | assumption | omega | (dsimp only; omega))) ?_)
   refine AL.rp rfl rfl (rp_move rfl rfl) ?_
   refine AL.rpy rfl rfl rfl (rp_move rfl rfl) ?_
   refine AL.rpy rfl rfl rfl (rp_move rfl rfl) ?_
   refine AL.rpy rfl rfl rfl (rp_index_own Try.underlying103 inf4 rfl rfl rfl rfl (by first | assumption | omega)) ?_
   refine AL.rdy rfl rfl rfl (rd_load_map Try.underlying4 rfl rfl rfl rfl rfl rfl (by assumption)) ?_
   refine AL.rpy rfl rfl rfl (rp_not rfl rfl) ?_
   refine AL.rp rfl rfl (rp_pick rfl rfl rfl) ?_
   refine AL.rp rfl rfl (rp_move rfl rfl) ?_
   refine AL.noV rfl rfl rfl rfl ?_
   refine AL.noV rfl rfl rfl rfl ?_
   refine AL.noV rfl rfl rfl rfl ?_
   refine AL.noU rfl ⟨_, rfl, rfl⟩ rfl ?_
   refine AL.noU rfl ⟨_, rfl, rfl⟩ rfl ?_
   refine AL.noU rfl ⟨_, rfl, rfl⟩ rfl ?_
   refine AL.noU rfl ⟨_, rfl, rfl⟩ rfl ?_
   refine AL.noU rfl ⟨_, rfl, rfl⟩ rfl ?_
   refine AL.noU rfl ⟨_, rfl, rfl⟩ rfl ?_
   refine AL.noV rfl rfl rfl rfl ?_
   refine AL.rp rfl rfl (rp_pick rfl rfl rfl) ?_
   refine AL.nil ?_
   try simp only [thenS, S.put]
   refine AW.condF rfl ?_
   refine AW.skip ?_
   try simp only [thenS]
   refine AW.region ?_
   refine AL.rp rfl rfl (rp_add rfl rfl rfl (by first | omega | (dsimp only; omega))) ?_
   refine AL.rp rfl rfl (rp_move rfl rfl) ?_
   refine AL.nil ?_
   try simp only [thenS, S.put]
   refine ⟨_, ?_, ⟨i + 1, z, by omega, hs, rfl⟩, ?_⟩
   ·exact (Less.of rfl (by repeat (first | exact trivial | refine ⟨⟨_, rfl, Wk.refl _⟩, ?_⟩ | refine ⟨⟨_, rfl, Wk.nil _ _⟩, ?_⟩ | refine ⟨⟨_, rfl, Wk.junk _⟩, ?_⟩)) (by repeat (first | exact trivial | refine ⟨rfl, ?_⟩)) rfl)
   ·simp [S.nat, fnd]; omega
  | false =>
   clear hskip
   rcases hzz with ⟨rfl, h2⟩ | ⟨r, y, rfl, h2, h3, h4, h5, h6⟩
   ·skip
    refine AW.seq ?_
    refine AW.region ?_
    (refine AL.rp rfl rfl (rp_lssT rfl rfl rfl (by first | assumption | omega | (dsimp only; omega))) ?_)
    refine AL.nil ?_
    try simp only [thenS, S.put]
    refine AW.seq ?_
    refine AW.condT rfl ?_
    refine AW.skip ?_
    try simp only [thenS]
    refine AW.seq ?_
    refine AW.block ?_
    refine AW.seq ?_
    refine AW.region ?_
    refine AL.rp rfl rfl (rp_move rfl rfl) ?_
    refine AL.rp rfl rfl (rp_index_own Try.underlying82 inf3 rfl rfl rfl rfl (by first | assumption | omega)) ?_
    refine AL.rd rfl rfl (rd_load_map Try.underlying3 rfl rfl rfl rfl rfl rfl (by assumption)) ?_
    refine AL.rp rfl rfl (rp_assign rfl rfl) ?_
    refine AL.rp rfl rfl (rp_assign rfl rfl) ?_
    refine AL.nil ?_
    try simp only [thenS, S.put]
    refine AW.seq ?_
    refine AW.region ?_
    refine AL.rp rfl rfl (rp_move rfl rfl) ?_
    (refine AL.rp rfl rfl (rp_geqT rfl rfl rfl (by first | assumption | omega | (dsimp only; omega))) ?_)
    refine AL.rp rfl rfl (rp_move rfl rfl) ?_
    refine AL.rpy rfl rfl rfl (rp_move rfl rfl) ?_
    refine AL.rpy rfl rfl rfl (rp_move rfl rfl) ?_
    refine AL.rpy rfl rfl rfl (rp_index_own Try.underlying103 inf4 rfl rfl rfl rfl (by first | assumption | omega)) ?_
    refine AL.rdy rfl rfl rfl (rd_load_map Try.underlying4 rfl rfl rfl rfl rfl rfl (by assumption)) ?_
    refine AL.rpy rfl rfl rfl (rp_not rfl rfl) ?_
    refine AL.rp rfl rfl (rp_pick rfl rfl rfl) ?_
    refine AL.rp rfl rfl (rp_move rfl rfl) ?_
    refine AL.rpy rfl rfl rfl (rp_move rfl rfl) ?_
    (refine AL.rpy rfl rfl rfl (rp_lssT rfl rfl rfl (by first | assumption | omega | (dsimp only; omega))) ?_)
    refine AL.rpy rfl rfl rfl (rp_move rfl rfl) ?_
    refine AL.noV rfl rfl rfl rfl ?_
    refine AL.noV rfl rfl rfl rfl ?_
    refine AL.noV rfl rfl rfl rfl ?_
    refine AL.noV rfl rfl rfl rfl ?_
    refine AL.noV rfl rfl rfl rfl ?_
    refine AL.noV rfl rfl rfl rfl ?_
    refine AL.rpy rfl rfl rfl (rp_pick rfl rfl rfl) ?_
    refine AL.rp rfl rfl (rp_pick rfl rfl rfl) ?_
    refine AL.nil ?_
    try simp only [thenS, S.put]
    refine AW.condT rfl ?_
    refine AW.region ?_
    refine AL.rp rfl rfl (rp_move rfl rfl) ?_
    refine AL.rp rfl rfl (rp_assign rfl rfl) ?_
    refine AL.nil ?_
    try simp only [thenS, S.put]
    refine AW.region ?_
    refine AL.rp rfl rfl (rp_add rfl rfl rfl (by first | omega | (dsimp only; omega))) ?_
    refine AL.rp rfl rfl (rp_move rfl rfl) ?_
    refine AL.nil ?_
    try simp only [thenS, S.put]
    refine ⟨_, ?_, ⟨i + 1, i, by omega, .inr ⟨i, c, rfl, hlt, hb, hc, hc1, fun p x hp h3 h4 => ?_⟩, rfl⟩, ?_⟩
    ·exact (Less.of rfl (by repeat (first | exact trivial | refine ⟨⟨_, rfl, Wk.refl _⟩, ?_⟩ | refine ⟨⟨_, rfl, Wk.nil _ _⟩, ?_⟩ | refine ⟨⟨_, rfl, Wk.junk _⟩, ?_⟩)) (by repeat (first | exact trivial | refine ⟨rfl, ?_⟩)) rfl)
    ·by_cases e : p = i
     ·subst e; rw [hc] at h4; have := Option.some.inj h4; omega
     ·have := h2 p x (by omega) h3 h4; omega
    ·simp [S.nat, fnd]; omega
   ·have hyC := hCg r y h4
    rw [encM_lt h5] at hyC
    by_cases hcy : c < y
    ·skip
     refine AW.seq ?_
     refine AW.region ?_
     (refine AL.rp rfl rfl (rp_lssT rfl rfl rfl (by first | assumption | omega | (dsimp only; omega))) ?_)
     refine AL.nil ?_
     try simp only [thenS, S.put]
     refine AW.seq ?_
     refine AW.condT rfl ?_
     refine AW.skip ?_
     try simp only [thenS]
     refine AW.seq ?_
     refine AW.block ?_
     refine AW.seq ?_
     refine AW.region ?_
     refine AL.rp rfl rfl (rp_move rfl rfl) ?_
     refine AL.rp rfl rfl (rp_index_own Try.underlying82 inf3 rfl rfl rfl rfl (by first | assumption | omega)) ?_
     refine AL.rd rfl rfl (rd_load_map Try.underlying3 rfl rfl rfl rfl rfl rfl (by assumption)) ?_
     refine AL.rp rfl rfl (rp_assign rfl rfl) ?_
     refine AL.rp rfl rfl (rp_assign rfl rfl) ?_
     refine AL.nil ?_
     try simp only [thenS, S.put]
     refine AW.seq ?_
     refine AW.region ?_
     refine AL.rp rfl rfl (rp_move rfl rfl) ?_
     (refine AL.rp rfl rfl (rp_geqT rfl rfl rfl (by first | assumption | omega | (dsimp only; omega))) ?_)
     refine AL.rp rfl rfl (rp_move rfl rfl) ?_
     refine AL.rpy rfl rfl rfl (rp_move rfl rfl) ?_
     refine AL.rpy rfl rfl rfl (rp_move rfl rfl) ?_
     refine AL.rpy rfl rfl rfl (rp_index_own Try.underlying103 inf4 rfl rfl rfl rfl (by first | assumption | omega)) ?_
     refine AL.rdy rfl rfl rfl (rd_load_map Try.underlying4 rfl rfl rfl rfl rfl rfl (by assumption)) ?_
     refine AL.rpy rfl rfl rfl (rp_not rfl rfl) ?_
     refine AL.rp rfl rfl (rp_pick rfl rfl rfl) ?_
     refine AL.rp rfl rfl (rp_move rfl rfl) ?_
     refine AL.rpy rfl rfl rfl (rp_move rfl rfl) ?_
     (refine AL.rpy rfl rfl rfl (rp_lssF rfl rfl rfl (by first | assumption | omega | (dsimp only; omega))) ?_)
     refine AL.rpy rfl rfl rfl (rp_move rfl rfl) ?_
     refine AL.rpy rfl rfl rfl (rp_move rfl rfl) ?_
     refine AL.rpy rfl rfl rfl (rp_move rfl rfl) ?_
     refine AL.rpy rfl rfl rfl (rp_move rfl rfl) ?_
     refine AL.rpy rfl rfl rfl (rp_index_own Try.underlying82 inf3 rfl rfl rfl rfl (by first | assumption | omega)) ?_
     refine AL.rdy rfl rfl rfl (rd_load_map Try.underlying3 rfl rfl rfl rfl rfl rfl (by assumption)) ?_
     (refine AL.rpy rfl rfl rfl (rp_lssT rfl rfl rfl (by first | assumption | omega | (dsimp only; omega))) ?_)
     refine AL.rpy rfl rfl rfl (rp_pick rfl rfl rfl) ?_
     refine AL.rp rfl rfl (rp_pick rfl rfl rfl) ?_
     refine AL.nil ?_
     try simp only [thenS, S.put]
     refine AW.condT rfl ?_
     refine AW.region ?_
     refine AL.rp rfl rfl (rp_move rfl rfl) ?_
     refine AL.rp rfl rfl (rp_assign rfl rfl) ?_
     refine AL.nil ?_
     try simp only [thenS, S.put]
     refine AW.region ?_
     refine AL.rp rfl rfl (rp_add rfl rfl rfl (by first | omega | (dsimp only; omega))) ?_
     refine AL.rp rfl rfl (rp_move rfl rfl) ?_
     refine AL.nil ?_
     try simp only [thenS, S.put]
     refine ⟨_, ?_, ⟨i + 1, i, by omega, .inr ⟨i, c, rfl, hlt, hb, hc, hc1, fun p x hp h7 h8 => ?_⟩, rfl⟩, ?_⟩
     ·exact (Less.of rfl (by repeat (first | exact trivial | refine ⟨⟨_, rfl, Wk.refl _⟩, ?_⟩ | refine ⟨⟨_, rfl, Wk.nil _ _⟩, ?_⟩ | refine ⟨⟨_, rfl, Wk.junk _⟩, ?_⟩)) (by repeat (first | exact trivial | refine ⟨rfl, ?_⟩)) rfl)
     ·by_cases e : p = i
      ·subst e; rw [hc] at h8; have := Option.some.inj h8; omega
      ·have := h6 p x (by omega) h7 h8; omega
     ·simp [S.nat, fnd]; omega
    ·skip
     refine AW.seq ?_
     refine AW.region ?_
     (refine AL.rp rfl rfl (rp_lssT rfl rfl rfl (by first | assumption | omega | (dsimp only; omega))) ?_)
     refine AL.nil ?_
     try simp only [thenS, S.put]
     refine AW.seq ?_
     refine AW.condT rfl ?_
     refine AW.skip ?_
     try simp only [thenS]
     refine AW.seq ?_
     refine AW.block ?_
     refine AW.seq ?_
     refine AW.region ?_
     refine AL.rp rfl rfl (rp_move rfl rfl) ?_
     refine AL.rp rfl rfl (rp_index_own Try.underlying82 inf3 rfl rfl rfl rfl (by first | assumption | omega)) ?_
     refine AL.rd rfl rfl (rd_load_map Try.underlying3 rfl rfl rfl rfl rfl rfl (by assumption)) ?_
     refine AL.rp rfl rfl (rp_assign rfl rfl) ?_
     refine AL.rp rfl rfl (rp_assign rfl rfl) ?_
     refine AL.nil ?_
     try simp only [thenS, S.put]
     refine AW.seq ?_
     refine AW.region ?_
     refine AL.rp rfl rfl (rp_move rfl rfl) ?_
     (refine AL.rp rfl rfl (rp_geqT rfl rfl rfl (by first | assumption | omega | (dsimp only; omega))) ?_)
     refine AL.rp rfl rfl (rp_move rfl rfl) ?_
     refine AL.rpy rfl rfl rfl (rp_move rfl rfl) ?_
     refine AL.rpy rfl rfl rfl (rp_move rfl rfl) ?_
     refine AL.rpy rfl rfl rfl (rp_index_own Try.underlying103 inf4 rfl rfl rfl rfl (by first | assumption | omega)) ?_
     refine AL.rdy rfl rfl rfl (rd_load_map Try.underlying4 rfl rfl rfl rfl rfl rfl (by assumption)) ?_
     refine AL.rpy rfl rfl rfl (rp_not rfl rfl) ?_
     refine AL.rp rfl rfl (rp_pick rfl rfl rfl) ?_
     refine AL.rp rfl rfl (rp_move rfl rfl) ?_
     refine AL.rpy rfl rfl rfl (rp_move rfl rfl) ?_
     (refine AL.rpy rfl rfl rfl (rp_lssF rfl rfl rfl (by first | assumption | omega | (dsimp only; omega))) ?_)
     refine AL.rpy rfl rfl rfl (rp_move rfl rfl) ?_
     refine AL.rpy rfl rfl rfl (rp_move rfl rfl) ?_
     refine AL.rpy rfl rfl rfl (rp_move rfl rfl) ?_
     refine AL.rpy rfl rfl rfl (rp_move rfl rfl) ?_
     refine AL.rpy rfl rfl rfl (rp_index_own Try.underlying82 inf3 rfl rfl rfl rfl (by first | assumption | omega)) ?_
     refine AL.rdy rfl rfl rfl (rd_load_map Try.underlying3 rfl rfl rfl rfl rfl rfl (by assumption)) ?_
     (refine AL.rpy rfl rfl rfl (rp_lssF rfl rfl rfl (by first | assumption | omega | (dsimp only; omega))) ?_)
     refine AL.rpy rfl rfl rfl (rp_pick rfl rfl rfl) ?_
     refine AL.rp rfl rfl (rp_pick rfl rfl rfl) ?_
     refine AL.nil ?_
     try simp only [thenS, S.put]
     refine AW.condF rfl ?_
     refine AW.skip ?_
     try simp only [thenS]
     refine AW.region ?_
     refine AL.rp rfl rfl (rp_add rfl rfl rfl (by first | omega | (dsimp only; omega))) ?_
     refine AL.rp rfl rfl (rp_move rfl rfl) ?_
     refine AL.nil ?_
     try simp only [thenS, S.put]
     refine ⟨_, ?_, ⟨i + 1, r, by omega, .inr ⟨r, y, rfl, h2, h3, h4, h5, fun p x hp h7 h8 => ?_⟩, rfl⟩, ?_⟩
     ·exact (Less.of rfl (by repeat (first | exact trivial | refine ⟨⟨_, rfl, Wk.refl _⟩, ?_⟩ | refine ⟨⟨_, rfl, Wk.nil _ _⟩, ?_⟩ | refine ⟨⟨_, rfl, Wk.junk _⟩, ?_⟩)) (by repeat (first | exact trivial | refine ⟨rfl, ?_⟩)) rfl)
     ·by_cases e : p = i
      ·subst e; rw [hc] at h8; have := Option.some.inj h8; omega
      ·exact h6 p x (by omega) h7 h8
     ·simp [S.nat, fnd]; omega
 obtain rfl : i = n := by omega
 rcases hzz with ⟨rfl, h2⟩ | ⟨r, y, rfl, h2, h3, h4, h5, h6⟩
 ·have hLD : L = D := by
   rw [← hD]
   exact hN.done hn fun r x h5 h6 => h2 r x (by have := (List.getElem?_eq_some_iff.1 h5).1; omega) h5 h6
  have hbd : ∀ p, p < i → hop sts q p < big → hop sts q p ≤ 60000000000 := fun p hp hb => by
   have h7 := hN.bnd p _ (hLD ▸ hDg p hp) hb
   have : k * 1000000000 ≤ 60 * 1000000000 := Nat.mul_le_mul_right _ (by omega)
   omega
  subst hLD
  rw [hC]
  refine AW.seq ?_
  refine AW.region ?_
  (refine AL.rp rfl rfl (rp_lssF rfl rfl rfl (by first | assumption | omega | (dsimp only; omega))) ?_)
  refine AL.nil ?_
  try simp only [thenS, S.put]
  refine AW.seq ?_
  refine AW.condF rfl ?_
  refine AW.exit ?_
  try simp only [thenS, inBlockS, ↓reduceIte, Nat.reduceEqDiff]
  refine AW.seq ?_
  refine AW.seq ?_
  refine AW.region ?_
  refine AL.rp rfl rfl (rp_move rfl rfl) ?_
  (refine AL.rp rfl rfl (rp_lssT rfl rfl rfl (by first | assumption | omega | (dsimp only; omega))) ?_)
  refine AL.nil ?_
  try simp only [thenS, S.put]
  refine AW.condT rfl ?_
  refine AW.seq ?_
  refine AW.freeze 5 8 (C.map fun x => [D.p (.int .i64 x)]) rfl rfl rfl (by rw [List.length_map, hCl]) (by omega) (rows1 (f := fun x : Int => D.p (.int .i64 x)) rfl) ?_
  refine AW.region ?_
  refine AL.rp rfl rfl (rp_move rfl rfl) ?_
  refine AL.rp rfl rfl (rp_assign rfl rfl) ?_
  refine AL.nil ?_
  try simp only [thenS, S.put]
  refine AW.ret ?_
  exact ⟨[_], ⟨rfl, trivial⟩, ⟨rfl, hbd⟩, by simp [tupOf, V.pure, V.has]⟩
 obtain ⟨x, hx⟩ := get_lt hn h2
 have hxa : stA sts r = x.arcs := stA_of hx
 have hxl := arcs_le (List.mem_of_getElem? hx)
 obtain ⟨la, hla⟩ : ∃ la, x.arcs.length = la := ⟨_, rfl⟩
 have hNI := hN.take h3 h4 h5 fun p z h7 h8 => h6 p z (by have := (List.getElem?_eq_some_iff.1 h7).1; omega) h7 h8
 have hrD : r < Dn.length := by omega
 have hk1 : k + 1 ≤ i := by
  have h7 := hNI.cnt
  have h8 : (Dn.set r true).count true ≤ (Dn.set r true).length := List.count_le_length
  rw [List.length_set] at h8
  omega
 have hyk := hNI.xk
 obtain ⟨Dm, hDm⟩ : ∃ Dm, Dn.set r true = Dm := ⟨_, rfl⟩
 have hx4 : la ≤ 400 := by omega
 have hxm : ∀ a ∈ x.arcs, 0 ≤ a.w ∧ a.w ≤ 1000000000 ∧ 0 ≤ a.t ∧ a.t < i := fun a ha => hw0 r a (by rw [hxa]; exact ha)
 have hsr : (Dn.map V.b).set r (.b true) = Dm.map V.b := by rw [← hDm, List.map_set]
 rw [hDm] at hNI
 clear h6 hw0 hz4 hz2 h3 hN hz3
 refine AW.seq ?_
 refine AW.region ?_
 (refine AL.rp rfl rfl (rp_lssF rfl rfl rfl (by first | assumption | omega | (dsimp only; omega))) ?_)
 refine AL.nil ?_
 try simp only [thenS, S.put]
 refine AW.seq ?_
 refine AW.condF rfl ?_
 refine AW.exit ?_
 try simp only [thenS, inBlockS, ↓reduceIte, Nat.reduceEqDiff]
 refine AW.seq ?_
 refine AW.seq ?_
 refine AW.region ?_
 refine AL.rp rfl rfl (rp_move rfl rfl) ?_
 (refine AL.rp rfl rfl (rp_lssF rfl rfl rfl (by first | assumption | omega | (dsimp only; omega))) ?_)
 refine AL.nil ?_
 try simp only [thenS, S.put]
 refine AW.condF rfl ?_
 refine AW.skip ?_
 try simp only [thenS]
 refine AW.seq ?_
 refine AW.region ?_
 refine AL.rp rfl rfl (rp_move rfl rfl) ?_
 refine AL.rp rfl rfl (rp_move rfl rfl) ?_
 refine AL.rp rfl rfl (rp_index_own Try.underlying103 inf4 rfl rfl rfl rfl (by first | assumption | omega)) ?_
 refine AL.st rfl (st_store_map2 inf4 rfl rfl rfl rfl rfl rfl rfl rfl (by first | assumption | omega)) ?_
 refine AL.nil ?_
 try simp only [thenS, S.put, S.newObj, setL, V.cs, List.length_cons, List.length_nil, List.take_succ_cons, List.take_zero, List.drop_succ_cons, List.drop_zero, List.drop_nil, List.nil_append, List.cons_append, List.append_nil, Nat.zero_add, Nat.reduceAdd, List.map_cons, List.map_nil, List.set_cons_zero, List.set_cons_succ]
 refine AW.seq ?_
 rw [hDm]
 refine AW.region ?_
 refine AL.rp rfl rfl (rp_field_ref Try.underlying24 rfl rfl rfl inf22 (by decide) rfl) ?_
 refine AL.rd rfl rfl (rd_load_ref Try.underlying22 rfl rfl rfl rfl rfl rfl) ?_
 refine AL.rp rfl rfl (rp_move rfl rfl) ?_
 refine AL.rp rfl rfl (rp_index_map Try.underlying22 inf50 rfl rfl rfl rfl (by assumption)) ?_
 refine AL.rp rfl rfl (rp_field_ad Try.underlying50 rfl rfl rfl inf48 (by decide) rfl) ?_
 refine AL.rd rfl rfl (rd_load_ad Try.underlying48 rfl rfl rfl rfl) ?_
 refine AL.rp rfl rfl (rp_len_map Try.underlying48 rfl rfl (by assumption)) ?_
 refine AL.rp rfl rfl (rp_move rfl rfl) ?_
 refine AL.nil ?_
 try simp only [thenS, S.put]
 refine AW.block ?_
 refine AW.loop (fun s' => ∃ (j : Nat) (L : List Nat) (C : List Int), j ≤ la ∧ NrI sts q i r y L Dm k (x.arcs.take j) ∧ L.map encM = C ∧ s' = ⟨113, [(2, .ref 2 0), (5, .own 17 1 i false), (7, .own 33 1 i false), (8, .i r), (75, .d (arsD x.arcs)), (76, .i la), (77, .i j)], [(2, ⟨24, [.i st, .d (stsD sts)], false, 0⟩), (17, ⟨3, C.map V.i, false, 1⟩), (33, ⟨4, Dm.map V.b, false, 1⟩)], []⟩) (fun s' => la - s'.nat 77) ⟨_, ?_, 0, L, C, by omega, hNI, hC, rfl⟩ ?_
 ·exact (Less.of rfl (by repeat (first | exact trivial | refine ⟨⟨_, rfl, Wk.refl _⟩, ?_⟩ | refine ⟨⟨_, rfl, Wk.nil _ _⟩, ?_⟩ | refine ⟨⟨_, rfl, Wk.junk _⟩, ?_⟩)) (by repeat (first | exact trivial | refine ⟨rfl, ?_⟩)) rfl)
 clear hNI hC hCg hCl h4 L C
 rintro s' ⟨j, L, C, hj, hNI, hC, rfl⟩
 have hLl := hNI.snd.len
 have hCl : C.length = i := by rw [← hC, List.length_map, hLl]
 have hCg : ∀ p x : Nat, L[p]? = some x → C[p]? = some (encM x) := fun p x h => hC ▸ encM_get h
 by_cases hlt : j < la
 ·obtain ⟨a, ha⟩ := get_lt hla hlt
  have ham := List.mem_of_getElem? ha
  obtain ⟨a1, a2, a3, a4⟩ := hxm a ham
  obtain ⟨ai, ao, aw, at'⟩ := a
  simp only at a1 a2 a3 a4
  obtain ⟨v, rfl⟩ := Int.eq_ofNat_of_zero_le a1
  obtain ⟨p, rfl⟩ := Int.eq_ofNat_of_zero_le a3
  have hpn : p < i := by omega
  obtain ⟨z, hzp⟩ := get_lt hLl hpn
  have hzb := hNI.snd.le p z hzp
  have hrC := hCg r y hNI.sx
  rw [encM_lt h5] at hrC
  have hpC := hCg p z hzp
  obtain ⟨e, he⟩ : ∃ e, emp ⟨ai, ao, (v : Int), (p : Int)⟩ = e := ⟨_, rfl⟩
  have hem := am_empty _ e he
  cases e with
  | false =>
   have hnx := hNI.skip ha (fun h => by rw [he] at h; cases h)
   refine AW.seq ?_
   refine AW.region ?_
   (refine AL.rp rfl rfl (rp_lssT rfl rfl rfl (by first | assumption | omega | (dsimp only; omega))) ?_)
   refine AL.nil ?_
   try simp only [thenS, S.put]
   refine AW.seq ?_
   refine AW.condT rfl ?_
   refine AW.skip ?_
   try simp only [thenS]
   refine AW.seq ?_
   refine AW.block ?_
   refine AW.seq ?_
   refine AW.region ?_
   refine AL.rp rfl rfl (rp_index_map Try.underlying48 inf54 rfl rfl rfl rfl (by assumption)) ?_
   refine AL.rd rfl rfl (rd_loads_ad Try.underlying54 rfl inf54 rfl rfl rfl rfl) ?_
   refine AL.sm rfl (sm_alloc (l := [.d (.p (.int .i64 0)), .d (.p (.int .i64 0)), .d (.p (.int .i64 0)), .d (.p (.int .i64 0))]) 12 inf54 rfl (by simp [S.clean, S.put, S.newObj, S.forget, V.has, V.hasL, junkIf, setL, V.cs, hasL_i, hasL_d, hasL_b, hasL_s, hasL_n, hasL_rep, hasL_flat, hasL_append, -List.map_set]) rfl rfl) ?_
   refine AL.st rfl (st_store_any inf54 rfl rfl rfl rfl rfl rfl rfl rfl (by first | decide | (simp; done) | (simp; omega)) rfl) ?_
   refine AL.nil ?_
   try simp only [thenS, S.put, S.newObj, setL, V.cs, List.length_cons, List.length_nil, List.take_succ_cons, List.take_zero, List.drop_succ_cons, List.drop_zero, List.drop_nil, List.nil_append, List.cons_append, List.append_nil, Nat.zero_add, Nat.reduceAdd, List.map_cons, List.map_nil, List.set_cons_zero, List.set_cons_succ]
   refine AW.seq ?_
   refine AW.draw [(0, true), (1, true), (2, true), (3, true), (4, true), (5, true), (6, true), (7, true)] (fun i => !([] : List Nat).contains i) 8 (by kernel_rfl) (by kernel_rfl) rfl (by kernel_rfl) ?_
   refine AD1.rp rfl rfl rfl (fun _ _ h => h) (rp_move rfl rfl) ?_
   refine AD1.rp rfl rfl rfl (fun _ _ h => h) (rp_move rfl rfl) ?_
   refine AD1.rp rfl rfl rfl (fun _ _ h => h) (rp_index_own Try.underlying82 inf3 rfl rfl rfl rfl (by first | assumption | omega)) ?_
   refine AD1.rd rfl rfl rfl (fun _ _ h => h) (rd_load_map Try.underlying3 rfl rfl rfl rfl rfl rfl (by assumption)) ?_
   refine AD1.rp rfl rfl rfl (fun _ _ h => h) (rp_field_ref Try.underlying54 rfl rfl rfl inf3 (by decide) rfl) ?_
   refine AD1.rd rfl rfl rfl (fun _ _ h => h) (rd_load_ref Try.underlying3 rfl rfl rfl rfl rfl rfl) ?_
   refine AD1.rp rfl rfl rfl (fun _ _ h => h) (rp_add rfl rfl rfl (by first | omega | (dsimp only; omega))) ?_
   refine AD1.rp rfl rfl rfl (fun _ _ h => h) (rp_assign rfl rfl) ?_
   refine AD1.nil ?_
   try simp only [thenS, S.put]
   refine AW.seq ?_
   refine AW.region ?_
   refine AL.rd rfl rfl (rd_loads_ref Try.underlying54 rfl inf54 rfl rfl rfl rfl rfl rfl) ?_
   refine AL.call (post := ?pc0) rfl (sm_call (args := [_]) ?hc0 ⟨Try.func39, rfl, rfl, rfl, rfl⟩ rfl rfl rfl rfl) ?_
   case hc0 => exact hem
   rintro _ rfl -
   try dsimp only
   refine AL.rp rfl rfl (rp_move rfl rfl) ?_
   refine AL.noV rfl rfl rfl rfl ?_
   refine AL.noV rfl rfl rfl rfl ?_
   refine AL.noV rfl rfl rfl rfl ?_
   refine AL.noV rfl rfl rfl rfl ?_
   refine AL.noV rfl rfl rfl rfl ?_
   refine AL.noV rfl rfl rfl rfl ?_
   refine AL.noV rfl rfl rfl rfl ?_
   refine AL.noU rfl ⟨_, rfl, rfl⟩ rfl ?_
   refine AL.noU rfl ⟨_, rfl, rfl⟩ rfl ?_
   refine AL.noU rfl ⟨_, rfl, rfl⟩ rfl ?_
   refine AL.noU rfl ⟨_, rfl, rfl⟩ rfl ?_
   refine AL.noU rfl ⟨_, rfl, rfl⟩ rfl ?_
   refine AL.noU rfl ⟨_, rfl, rfl⟩ rfl ?_
   refine AL.noU rfl ⟨_, rfl, rfl⟩ rfl ?_
   refine AL.noV rfl rfl rfl rfl ?_
   refine AL.rp rfl rfl (rp_pick rfl rfl rfl) ?_
   refine AL.nil ?_
   try simp only [thenS, S.put, S.newObj, setL, V.cs, List.length_cons, List.length_nil, List.take_succ_cons, List.take_zero, List.drop_succ_cons, List.drop_zero, List.drop_nil, List.nil_append, List.cons_append, List.append_nil, Nat.zero_add, Nat.reduceAdd, List.map_cons, List.map_nil, List.set_cons_zero, List.set_cons_succ]
   refine AW.condF rfl ?_
   refine AW.skip ?_
   try simp only [thenS]
   refine AW.region ?_
   refine AL.rp rfl rfl (rp_add rfl rfl rfl (by first | omega | (dsimp only; omega))) ?_
   refine AL.rp rfl rfl (rp_move rfl rfl) ?_
   refine AL.nil ?_
   try simp only [thenS, S.put]
   refine ⟨_, ?_, ⟨j + 1, L, C, by omega, hnx, hC, rfl⟩, ?_⟩
   ·exact (Less.of rfl (by repeat (first | exact trivial | refine ⟨⟨_, rfl, Wk.refl _⟩, ?_⟩ | refine ⟨⟨_, rfl, Wk.nil _ _⟩, ?_⟩ | refine ⟨⟨_, rfl, Wk.junk _⟩, ?_⟩)) (by repeat (first | exact trivial | refine ⟨rfl, ?_⟩)) rfl)
   ·simp [S.nat, fnd]; omega
  | true =>
   by_cases hc : y + v < z
   ·have hlt2 : y + v < big := by omega
    have hnx := hNI.less hxa ha he rfl hpn rfl (by omega) hzp hc
    have hset : (L.set p (y + v)).map encM = C.set p ((y : Int) + (v : Int)) := by
     rw [← encM_set, encM_lt hlt2, hC, Int.natCast_add]
    by_cases hzz : z = big
    ·rw [hzz, encM_big] at hpC
     refine AW.seq ?_
     refine AW.region ?_
     (refine AL.rp rfl rfl (rp_lssT rfl rfl rfl (by first | assumption | omega | (dsimp only; omega))) ?_)
     refine AL.nil ?_
     try simp only [thenS, S.put]
     refine AW.seq ?_
     refine AW.condT rfl ?_
     refine AW.skip ?_
     try simp only [thenS]
     refine AW.seq ?_
     refine AW.block ?_
     refine AW.seq ?_
     refine AW.region ?_
     refine AL.rp rfl rfl (rp_index_map Try.underlying48 inf54 rfl rfl rfl rfl (by assumption)) ?_
     refine AL.rd rfl rfl (rd_loads_ad Try.underlying54 rfl inf54 rfl rfl rfl rfl) ?_
     refine AL.sm rfl (sm_alloc (l := [.d (.p (.int .i64 0)), .d (.p (.int .i64 0)), .d (.p (.int .i64 0)), .d (.p (.int .i64 0))]) 12 inf54 rfl (by simp [S.clean, S.put, S.newObj, S.forget, V.has, V.hasL, junkIf, setL, V.cs, hasL_i, hasL_d, hasL_b, hasL_s, hasL_n, hasL_rep, hasL_flat, hasL_append, -List.map_set]) rfl rfl) ?_
     refine AL.st rfl (st_store_any inf54 rfl rfl rfl rfl rfl rfl rfl rfl (by first | decide | (simp; done) | (simp; omega)) rfl) ?_
     refine AL.nil ?_
     try simp only [thenS, S.put, S.newObj, setL, V.cs, List.length_cons, List.length_nil, List.take_succ_cons, List.take_zero, List.drop_succ_cons, List.drop_zero, List.drop_nil, List.nil_append, List.cons_append, List.append_nil, Nat.zero_add, Nat.reduceAdd, List.map_cons, List.map_nil, List.set_cons_zero, List.set_cons_succ]
     refine AW.seq ?_
     refine AW.draw [(0, true), (1, true), (2, true), (3, true), (4, true), (5, true), (6, true), (7, true)] (fun i => !([] : List Nat).contains i) 8 (by kernel_rfl) (by kernel_rfl) rfl (by kernel_rfl) ?_
     refine AD1.rp rfl rfl rfl (fun _ _ h => h) (rp_move rfl rfl) ?_
     refine AD1.rp rfl rfl rfl (fun _ _ h => h) (rp_move rfl rfl) ?_
     refine AD1.rp rfl rfl rfl (fun _ _ h => h) (rp_index_own Try.underlying82 inf3 rfl rfl rfl rfl (by first | assumption | omega)) ?_
     refine AD1.rd rfl rfl rfl (fun _ _ h => h) (rd_load_map Try.underlying3 rfl rfl rfl rfl rfl rfl (by assumption)) ?_
     refine AD1.rp rfl rfl rfl (fun _ _ h => h) (rp_field_ref Try.underlying54 rfl rfl rfl inf3 (by decide) rfl) ?_
     refine AD1.rd rfl rfl rfl (fun _ _ h => h) (rd_load_ref Try.underlying3 rfl rfl rfl rfl rfl rfl) ?_
     refine AD1.rp rfl rfl rfl (fun _ _ h => h) (rp_add rfl rfl rfl (by first | omega | (dsimp only; omega))) ?_
     refine AD1.rp rfl rfl rfl (fun _ _ h => h) (rp_assign rfl rfl) ?_
     refine AD1.nil ?_
     try simp only [thenS, S.put]
     refine AW.seq ?_
     refine AW.region ?_
     refine AL.rd rfl rfl (rd_loads_ref Try.underlying54 rfl inf54 rfl rfl rfl rfl rfl rfl) ?_
     refine AL.call (post := ?pc1) rfl (sm_call (args := [_]) ?hc1 ⟨Try.func39, rfl, rfl, rfl, rfl⟩ rfl rfl rfl rfl) ?_
     case hc1 => exact hem
     rintro _ rfl -
     try dsimp only
     refine AL.rp rfl rfl (rp_move rfl rfl) ?_
     refine AL.rpy rfl rfl rfl (rp_move rfl rfl) ?_
     refine AL.rpy rfl rfl rfl (rp_field_ref Try.underlying54 rfl rfl rfl inf3 (by decide) rfl) ?_
     refine AL.rdy rfl rfl rfl (rd_load_ref Try.underlying3 rfl rfl rfl rfl rfl rfl) ?_
     refine AL.rpy rfl rfl rfl (rp_index_own Try.underlying82 inf3 rfl rfl rfl rfl (by first | assumption | omega)) ?_
     refine AL.rdy rfl rfl rfl (rd_load_map Try.underlying3 rfl rfl rfl rfl rfl rfl (by assumption)) ?_
     (refine AL.rpy rfl rfl rfl (rp_lssT rfl rfl rfl (by first | assumption | omega | (dsimp only; omega))) ?_)
     refine AL.rpy rfl rfl rfl (rp_move rfl rfl) ?_
     refine AL.noV rfl rfl rfl rfl ?_
     refine AL.noV rfl rfl rfl rfl ?_
     refine AL.noV rfl rfl rfl rfl ?_
     refine AL.noV rfl rfl rfl rfl ?_
     refine AL.noV rfl rfl rfl rfl ?_
     refine AL.noV rfl rfl rfl rfl ?_
     refine AL.noV rfl rfl rfl rfl ?_
     refine AL.rpy rfl rfl rfl (rp_pick rfl rfl rfl) ?_
     refine AL.rp rfl rfl (rp_pick rfl rfl rfl) ?_
     refine AL.nil ?_
     try simp only [thenS, S.put, S.newObj, setL, V.cs, List.length_cons, List.length_nil, List.take_succ_cons, List.take_zero, List.drop_succ_cons, List.drop_zero, List.drop_nil, List.nil_append, List.cons_append, List.append_nil, Nat.zero_add, Nat.reduceAdd, List.map_cons, List.map_nil, List.set_cons_zero, List.set_cons_succ]
     refine AW.condT rfl ?_
     refine AW.region ?_
     refine AL.rp rfl rfl (rp_move rfl rfl) ?_
     refine AL.rp rfl rfl (rp_field_ref Try.underlying54 rfl rfl rfl inf3 (by decide) rfl) ?_
     refine AL.rd rfl rfl (rd_load_ref Try.underlying3 rfl rfl rfl rfl rfl rfl) ?_
     refine AL.rp rfl rfl (rp_move rfl rfl) ?_
     refine AL.rp rfl rfl (rp_index_own Try.underlying82 inf3 rfl rfl rfl rfl (by first | assumption | omega)) ?_
     refine AL.st rfl (st_store_map2 inf3 rfl rfl rfl rfl rfl rfl rfl rfl (by first | assumption | omega)) ?_
     refine AL.nil ?_
     try simp only [thenS, S.put, S.newObj, setL, V.cs, List.length_cons, List.length_nil, List.take_succ_cons, List.take_zero, List.drop_succ_cons, List.drop_zero, List.drop_nil, List.nil_append, List.cons_append, List.append_nil, Nat.zero_add, Nat.reduceAdd, List.map_cons, List.map_nil, List.set_cons_zero, List.set_cons_succ]
     refine AW.region ?_
     refine AL.rp rfl rfl (rp_add rfl rfl rfl (by first | omega | (dsimp only; omega))) ?_
     refine AL.rp rfl rfl (rp_move rfl rfl) ?_
     refine AL.nil ?_
     try simp only [thenS, S.put]
     refine ⟨_, ?_, ⟨j + 1, L.set p (y + v), _, by omega, hnx, hset, rfl⟩, ?_⟩
     ·exact (Less.of rfl (by repeat (first | exact trivial | refine ⟨⟨_, rfl, Wk.refl _⟩, ?_⟩ | refine ⟨⟨_, rfl, Wk.nil _ _⟩, ?_⟩ | refine ⟨⟨_, rfl, Wk.junk _⟩, ?_⟩)) (by repeat (first | exact trivial | refine ⟨rfl, ?_⟩)) rfl)
     ·simp [S.nat, fnd]; omega
    ·rw [encM_lt (by omega)] at hpC
     refine AW.seq ?_
     refine AW.region ?_
     (refine AL.rp rfl rfl (rp_lssT rfl rfl rfl (by first | assumption | omega | (dsimp only; omega))) ?_)
     refine AL.nil ?_
     try simp only [thenS, S.put]
     refine AW.seq ?_
     refine AW.condT rfl ?_
     refine AW.skip ?_
     try simp only [thenS]
     refine AW.seq ?_
     refine AW.block ?_
     refine AW.seq ?_
     refine AW.region ?_
     refine AL.rp rfl rfl (rp_index_map Try.underlying48 inf54 rfl rfl rfl rfl (by assumption)) ?_
     refine AL.rd rfl rfl (rd_loads_ad Try.underlying54 rfl inf54 rfl rfl rfl rfl) ?_
     refine AL.sm rfl (sm_alloc (l := [.d (.p (.int .i64 0)), .d (.p (.int .i64 0)), .d (.p (.int .i64 0)), .d (.p (.int .i64 0))]) 12 inf54 rfl (by simp [S.clean, S.put, S.newObj, S.forget, V.has, V.hasL, junkIf, setL, V.cs, hasL_i, hasL_d, hasL_b, hasL_s, hasL_n, hasL_rep, hasL_flat, hasL_append, -List.map_set]) rfl rfl) ?_
     refine AL.st rfl (st_store_any inf54 rfl rfl rfl rfl rfl rfl rfl rfl (by first | decide | (simp; done) | (simp; omega)) rfl) ?_
     refine AL.nil ?_
     try simp only [thenS, S.put, S.newObj, setL, V.cs, List.length_cons, List.length_nil, List.take_succ_cons, List.take_zero, List.drop_succ_cons, List.drop_zero, List.drop_nil, List.nil_append, List.cons_append, List.append_nil, Nat.zero_add, Nat.reduceAdd, List.map_cons, List.map_nil, List.set_cons_zero, List.set_cons_succ]
     refine AW.seq ?_
     refine AW.draw [(0, true), (1, true), (2, true), (3, true), (4, true), (5, true), (6, true), (7, true)] (fun i => !([] : List Nat).contains i) 8 (by kernel_rfl) (by kernel_rfl) rfl (by kernel_rfl) ?_
     refine AD1.rp rfl rfl rfl (fun _ _ h => h) (rp_move rfl rfl) ?_
     refine AD1.rp rfl rfl rfl (fun _ _ h => h) (rp_move rfl rfl) ?_
     refine AD1.rp rfl rfl rfl (fun _ _ h => h) (rp_index_own Try.underlying82 inf3 rfl rfl rfl rfl (by first | assumption | omega)) ?_
     refine AD1.rd rfl rfl rfl (fun _ _ h => h) (rd_load_map Try.underlying3 rfl rfl rfl rfl rfl rfl (by assumption)) ?_
     refine AD1.rp rfl rfl rfl (fun _ _ h => h) (rp_field_ref Try.underlying54 rfl rfl rfl inf3 (by decide) rfl) ?_
     refine AD1.rd rfl rfl rfl (fun _ _ h => h) (rd_load_ref Try.underlying3 rfl rfl rfl rfl rfl rfl) ?_
     refine AD1.rp rfl rfl rfl (fun _ _ h => h) (rp_add rfl rfl rfl (by first | omega | (dsimp only; omega))) ?_
     refine AD1.rp rfl rfl rfl (fun _ _ h => h) (rp_assign rfl rfl) ?_
     refine AD1.nil ?_
     try simp only [thenS, S.put]
     refine AW.seq ?_
     refine AW.region ?_
     refine AL.rd rfl rfl (rd_loads_ref Try.underlying54 rfl inf54 rfl rfl rfl rfl rfl rfl) ?_
     refine AL.call (post := ?pc2) rfl (sm_call (args := [_]) ?hc2 ⟨Try.func39, rfl, rfl, rfl, rfl⟩ rfl rfl rfl rfl) ?_
     case hc2 => exact hem
     rintro _ rfl -
     try dsimp only
     refine AL.rp rfl rfl (rp_move rfl rfl) ?_
     refine AL.rpy rfl rfl rfl (rp_move rfl rfl) ?_
     refine AL.rpy rfl rfl rfl (rp_field_ref Try.underlying54 rfl rfl rfl inf3 (by decide) rfl) ?_
     refine AL.rdy rfl rfl rfl (rd_load_ref Try.underlying3 rfl rfl rfl rfl rfl rfl) ?_
     refine AL.rpy rfl rfl rfl (rp_index_own Try.underlying82 inf3 rfl rfl rfl rfl (by first | assumption | omega)) ?_
     refine AL.rdy rfl rfl rfl (rd_load_map Try.underlying3 rfl rfl rfl rfl rfl rfl (by assumption)) ?_
     (refine AL.rpy rfl rfl rfl (rp_lssF rfl rfl rfl (by first | assumption | omega | (dsimp only; omega))) ?_)
     refine AL.rpy rfl rfl rfl (rp_move rfl rfl) ?_
     refine AL.rpy rfl rfl rfl (rp_move rfl rfl) ?_
     refine AL.rpy rfl rfl rfl (rp_move rfl rfl) ?_
     refine AL.rpy rfl rfl rfl (rp_field_ref Try.underlying54 rfl rfl rfl inf3 (by decide) rfl) ?_
     refine AL.rdy rfl rfl rfl (rd_load_ref Try.underlying3 rfl rfl rfl rfl rfl rfl) ?_
     refine AL.rpy rfl rfl rfl (rp_index_own Try.underlying82 inf3 rfl rfl rfl rfl (by first | assumption | omega)) ?_
     refine AL.rdy rfl rfl rfl (rd_load_map Try.underlying3 rfl rfl rfl rfl rfl rfl (by assumption)) ?_
     (refine AL.rpy rfl rfl rfl (rp_lssT rfl rfl rfl (by first | assumption | omega | (dsimp only; omega))) ?_)
     refine AL.rpy rfl rfl rfl (rp_pick rfl rfl rfl) ?_
     refine AL.rp rfl rfl (rp_pick rfl rfl rfl) ?_
     refine AL.nil ?_
     try simp only [thenS, S.put, S.newObj, setL, V.cs, List.length_cons, List.length_nil, List.take_succ_cons, List.take_zero, List.drop_succ_cons, List.drop_zero, List.drop_nil, List.nil_append, List.cons_append, List.append_nil, Nat.zero_add, Nat.reduceAdd, List.map_cons, List.map_nil, List.set_cons_zero, List.set_cons_succ]
     refine AW.condT rfl ?_
     refine AW.region ?_
     refine AL.rp rfl rfl (rp_move rfl rfl) ?_
     refine AL.rp rfl rfl (rp_field_ref Try.underlying54 rfl rfl rfl inf3 (by decide) rfl) ?_
     refine AL.rd rfl rfl (rd_load_ref Try.underlying3 rfl rfl rfl rfl rfl rfl) ?_
     refine AL.rp rfl rfl (rp_move rfl rfl) ?_
     refine AL.rp rfl rfl (rp_index_own Try.underlying82 inf3 rfl rfl rfl rfl (by first | assumption | omega)) ?_
     refine AL.st rfl (st_store_map2 inf3 rfl rfl rfl rfl rfl rfl rfl rfl (by first | assumption | omega)) ?_
     refine AL.nil ?_
     try simp only [thenS, S.put, S.newObj, setL, V.cs, List.length_cons, List.length_nil, List.take_succ_cons, List.take_zero, List.drop_succ_cons, List.drop_zero, List.drop_nil, List.nil_append, List.cons_append, List.append_nil, Nat.zero_add, Nat.reduceAdd, List.map_cons, List.map_nil, List.set_cons_zero, List.set_cons_succ]
     refine AW.region ?_
     refine AL.rp rfl rfl (rp_add rfl rfl rfl (by first | omega | (dsimp only; omega))) ?_
     refine AL.rp rfl rfl (rp_move rfl rfl) ?_
     refine AL.nil ?_
     try simp only [thenS, S.put]
     refine ⟨_, ?_, ⟨j + 1, L.set p (y + v), _, by omega, hnx, hset, rfl⟩, ?_⟩
     ·exact (Less.of rfl (by repeat (first | exact trivial | refine ⟨⟨_, rfl, Wk.refl _⟩, ?_⟩ | refine ⟨⟨_, rfl, Wk.nil _ _⟩, ?_⟩ | refine ⟨⟨_, rfl, Wk.junk _⟩, ?_⟩)) (by repeat (first | exact trivial | refine ⟨rfl, ?_⟩)) rfl)
     ·simp [S.nat, fnd]; omega
   ·have hnx := hNI.skip ha (fun _ p' y' hp' hy' => by
     simp only [Int.natCast_inj] at hp'
     subst hp'
     rw [hzp] at hy'
     have := Option.some.inj hy'
     simp only [Int.toNat_natCast]
     omega)
    rw [encM_lt (by omega)] at hpC
    refine AW.seq ?_
    refine AW.region ?_
    (refine AL.rp rfl rfl (rp_lssT rfl rfl rfl (by first | assumption | omega | (dsimp only; omega))) ?_)
    refine AL.nil ?_
    try simp only [thenS, S.put]
    refine AW.seq ?_
    refine AW.condT rfl ?_
    refine AW.skip ?_
    try simp only [thenS]
    refine AW.seq ?_
    refine AW.block ?_
    refine AW.seq ?_
    refine AW.region ?_
    refine AL.rp rfl rfl (rp_index_map Try.underlying48 inf54 rfl rfl rfl rfl (by assumption)) ?_
    refine AL.rd rfl rfl (rd_loads_ad Try.underlying54 rfl inf54 rfl rfl rfl rfl) ?_
    refine AL.sm rfl (sm_alloc (l := [.d (.p (.int .i64 0)), .d (.p (.int .i64 0)), .d (.p (.int .i64 0)), .d (.p (.int .i64 0))]) 12 inf54 rfl (by simp [S.clean, S.put, S.newObj, S.forget, V.has, V.hasL, junkIf, setL, V.cs, hasL_i, hasL_d, hasL_b, hasL_s, hasL_n, hasL_rep, hasL_flat, hasL_append, -List.map_set]) rfl rfl) ?_
    refine AL.st rfl (st_store_any inf54 rfl rfl rfl rfl rfl rfl rfl rfl (by first | decide | (simp; done) | (simp; omega)) rfl) ?_
    refine AL.nil ?_
    try simp only [thenS, S.put, S.newObj, setL, V.cs, List.length_cons, List.length_nil, List.take_succ_cons, List.take_zero, List.drop_succ_cons, List.drop_zero, List.drop_nil, List.nil_append, List.cons_append, List.append_nil, Nat.zero_add, Nat.reduceAdd, List.map_cons, List.map_nil, List.set_cons_zero, List.set_cons_succ]
    refine AW.seq ?_
    refine AW.draw [(0, true), (1, true), (2, true), (3, true), (4, true), (5, true), (6, true), (7, true)] (fun i => !([] : List Nat).contains i) 8 (by kernel_rfl) (by kernel_rfl) rfl (by kernel_rfl) ?_
    refine AD1.rp rfl rfl rfl (fun _ _ h => h) (rp_move rfl rfl) ?_
    refine AD1.rp rfl rfl rfl (fun _ _ h => h) (rp_move rfl rfl) ?_
    refine AD1.rp rfl rfl rfl (fun _ _ h => h) (rp_index_own Try.underlying82 inf3 rfl rfl rfl rfl (by first | assumption | omega)) ?_
    refine AD1.rd rfl rfl rfl (fun _ _ h => h) (rd_load_map Try.underlying3 rfl rfl rfl rfl rfl rfl (by assumption)) ?_
    refine AD1.rp rfl rfl rfl (fun _ _ h => h) (rp_field_ref Try.underlying54 rfl rfl rfl inf3 (by decide) rfl) ?_
    refine AD1.rd rfl rfl rfl (fun _ _ h => h) (rd_load_ref Try.underlying3 rfl rfl rfl rfl rfl rfl) ?_
    refine AD1.rp rfl rfl rfl (fun _ _ h => h) (rp_add rfl rfl rfl (by first | omega | (dsimp only; omega))) ?_
    refine AD1.rp rfl rfl rfl (fun _ _ h => h) (rp_assign rfl rfl) ?_
    refine AD1.nil ?_
    try simp only [thenS, S.put]
    refine AW.seq ?_
    refine AW.region ?_
    refine AL.rd rfl rfl (rd_loads_ref Try.underlying54 rfl inf54 rfl rfl rfl rfl rfl rfl) ?_
    refine AL.call (post := ?pc3) rfl (sm_call (args := [_]) ?hc3 ⟨Try.func39, rfl, rfl, rfl, rfl⟩ rfl rfl rfl rfl) ?_
    case hc3 => exact hem
    rintro _ rfl -
    try dsimp only
    refine AL.rp rfl rfl (rp_move rfl rfl) ?_
    refine AL.rpy rfl rfl rfl (rp_move rfl rfl) ?_
    refine AL.rpy rfl rfl rfl (rp_field_ref Try.underlying54 rfl rfl rfl inf3 (by decide) rfl) ?_
    refine AL.rdy rfl rfl rfl (rd_load_ref Try.underlying3 rfl rfl rfl rfl rfl rfl) ?_
    refine AL.rpy rfl rfl rfl (rp_index_own Try.underlying82 inf3 rfl rfl rfl rfl (by first | assumption | omega)) ?_
    refine AL.rdy rfl rfl rfl (rd_load_map Try.underlying3 rfl rfl rfl rfl rfl rfl (by assumption)) ?_
    (refine AL.rpy rfl rfl rfl (rp_lssF rfl rfl rfl (by first | assumption | omega | (dsimp only; omega))) ?_)
    refine AL.rpy rfl rfl rfl (rp_move rfl rfl) ?_
    refine AL.rpy rfl rfl rfl (rp_move rfl rfl) ?_
    refine AL.rpy rfl rfl rfl (rp_move rfl rfl) ?_
    refine AL.rpy rfl rfl rfl (rp_field_ref Try.underlying54 rfl rfl rfl inf3 (by decide) rfl) ?_
    refine AL.rdy rfl rfl rfl (rd_load_ref Try.underlying3 rfl rfl rfl rfl rfl rfl) ?_
    refine AL.rpy rfl rfl rfl (rp_index_own Try.underlying82 inf3 rfl rfl rfl rfl (by first | assumption | omega)) ?_
    refine AL.rdy rfl rfl rfl (rd_load_map Try.underlying3 rfl rfl rfl rfl rfl rfl (by assumption)) ?_
    (refine AL.rpy rfl rfl rfl (rp_lssF rfl rfl rfl (by first | assumption | omega | (dsimp only; omega))) ?_)
    refine AL.rpy rfl rfl rfl (rp_pick rfl rfl rfl) ?_
    refine AL.rp rfl rfl (rp_pick rfl rfl rfl) ?_
    refine AL.nil ?_
    try simp only [thenS, S.put, S.newObj, setL, V.cs, List.length_cons, List.length_nil, List.take_succ_cons, List.take_zero, List.drop_succ_cons, List.drop_zero, List.drop_nil, List.nil_append, List.cons_append, List.append_nil, Nat.zero_add, Nat.reduceAdd, List.map_cons, List.map_nil, List.set_cons_zero, List.set_cons_succ]
    refine AW.condF rfl ?_
    refine AW.skip ?_
    try simp only [thenS]
    refine AW.region ?_
    refine AL.rp rfl rfl (rp_add rfl rfl rfl (by first | omega | (dsimp only; omega))) ?_
    refine AL.rp rfl rfl (rp_move rfl rfl) ?_
    refine AL.nil ?_
    try simp only [thenS, S.put]
    refine ⟨_, ?_, ⟨j + 1, L, C, by omega, hnx, hC, rfl⟩, ?_⟩
    ·exact (Less.of rfl (by repeat (first | exact trivial | refine ⟨⟨_, rfl, Wk.refl _⟩, ?_⟩ | refine ⟨⟨_, rfl, Wk.nil _ _⟩, ?_⟩ | refine ⟨⟨_, rfl, Wk.junk _⟩, ?_⟩)) (by repeat (first | exact trivial | refine ⟨rfl, ?_⟩)) rfl)
    ·simp [S.nat, fnd]; omega
 ·rw [List.take_of_length_le (by omega)] at hNI
  have hnx := hNI.done hxa
  refine AW.seq ?_
  refine AW.region ?_
  (refine AL.rp rfl rfl (rp_lssF rfl rfl rfl (by first | assumption | omega | (dsimp only; omega))) ?_)
  refine AL.nil ?_
  try simp only [thenS, S.put]
  refine AW.seq ?_
  refine AW.condF rfl ?_
  refine AW.exit ?_
  try simp only [thenS, inBlockS, ↓reduceIte, Nat.reduceEqDiff]
  refine ⟨μ - 1, _, ?_, ⟨L, C, Dm, k + 1, by omega, hnx, hC, rfl⟩, by omega⟩
  exact (Less.of rfl (by repeat (first | exact trivial | refine ⟨⟨_, rfl, Wk.refl _⟩, ?_⟩ | refine ⟨⟨_, rfl, Wk.nil _ _⟩, ?_⟩ | refine ⟨⟨_, rfl, Wk.junk _⟩, ?_⟩)) (by repeat (first | exact trivial | refine ⟨rfl, ?_⟩)) rfl)
end Go.Proofs.Ythlcginebeapdaa
namespace Go.Proofs.Ythlcginebeapdaa
open Go.RowKit
set_option linter.unusedSimpArgs false
set_option linter.unusedVariables false

mutual
/-- Does a value speak of an iterator over a map? -/
def V.its : V → Bool
  | .mit _ _ _ _ _ => true
  | .ifc _ v => V.its v
  | .agg l => V.itsL l
  | .tup l => V.itsL l
  | .fn _ l => V.itsL l
  | _ => false
def V.itsL : List V → Bool
  | [] => false
  | v :: l => V.its v || V.itsL l
end
theorem V.itsL_false {l : List V} : V.itsL l = false ↔ ∀ d ∈ l, V.its d = false := by
  induction l with
  | nil => simp [V.itsL]
  | cons x l ih => simp [V.itsL, ih]
/-- The iterator r has handed out those of seen; of other iterators nothing is said. -/
def upMI (r : Nat) (seen : List Nat) : V → V
  | .mit k rm N l s0 => if k = r then .mit k rm N l seen else .junk
  | v => if v.its then .junk else v

theorem ments_mem {l : List (Value × Value)} {e : MapEntry} (h : e ∈ (ments l).toList) : ∃ j kv, l[j]? = some kv ∧ e = { key := kv.1, val := kv.2, born := j } := by
  obtain ⟨j, hj⟩ := List.getElem?_of_mem h
  rw [Array.getElem?_toList, ments_get] at hj
  cases hl : l[j]? with
  | none => rw [hl] at hj; cases hj
  | some kv => rw [hl] at hj; simp at hj; exact ⟨j, kv, hl, hj.symm⟩
theorem ments_at {l : List (Value × Value)} {j : Nat} {kv : Value × Value} (h : l[j]? = some kv) : ({ key := kv.1, val := kv.2, born := j } : MapEntry) ∈ (ments l).toList := by
  have : (ments l).toList[j]? = some { key := kv.1, val := kv.2, born := j } := by rw [Array.getElem?_toList, ments_get, h]; rfl
  exact List.mem_of_getElem? this
theorem run_nextM {P : Program} (w : World) (ty : TypeId) (b bm : Nat) (l : List (Value × Value)) (seen : List Nat) (hb : w.heap[b]? = some (.mapIter (some bm) l.length seen.toArray l.length)) (hm : w.heap[bm]? = some (.map (ments l) l.length)) :
    ((∀ j, j < l.length → j ∈ seen) ∧ (Instr.next (.pointer (some ⟨b, 0, none⟩)) false ty).run P w = .ok (.tuple #[.bool false]) w) ∨
    ∃ (j : Nat) (kv : Value × Value) (w1 : World), l[j]? = some kv ∧ j ∉ seen ∧ w1.heap = w.heap ∧ Below w.heap.size w w1 ∧
      (Instr.next (.pointer (some ⟨b, 0, none⟩)) false ty).run P w = .ok (.tuple #[.bool true, kv.1, kv.2]) { w1 with heap := w.heap.setIfInBounds b (.mapIter (some bm) l.length (seen ++ [j]).toArray l.length) } := by
  have hold : ∀ x ∈ (ments l).toList, x.born < l.length := fun x hx => by
    obtain ⟨j, kv, h1, rfl⟩ := ments_mem hx
    exact (List.getElem?_eq_some_iff.1 h1).1
  simp only [Instr.next, getObj, Sem.run_bind, Sem.run, hb, hm, Result.andThen, next_test_false seen.toArray (ments l) l.length l.length hold (Nat.le_refl _), Bool.false_eq_true, if_false]
  have hmem : ∀ x ∈ (Array.filter (fun e => !seen.toArray.contains e.born) (ments l)).toList, x.born < l.length ∧ ∃ j kv, l[j]? = some kv ∧ j ∉ seen ∧ x = { key := kv.1, val := kv.2, born := j } := fun x hx => by
    simp only [Array.toList_filter, List.mem_filter] at hx
    refine ⟨hold x hx.1, ?_⟩
    obtain ⟨j, kv, h1, rfl⟩ := ments_mem hx.1
    exact ⟨j, kv, h1, by simpa using hx.2, rfl⟩
  have hall : (Array.filter (fun e => !seen.toArray.contains e.born) (ments l)).size = 0 → ∀ j, j < l.length → j ∈ seen := by
    intro h0 j hj
    refine Classical.byContradiction fun hn => ?_
    have h1 := ments_at (List.getElem?_eq_getElem hj)
    have : ({ key := l[j].1, val := l[j].2, born := j } : MapEntry) ∈ (Array.filter (fun e => !seen.toArray.contains e.born) (ments l)).toList := by
      rw [Array.toList_filter, List.mem_filter]
      exact ⟨h1, by simpa using hn⟩
    rw [Array.eq_empty_of_size_eq_zero h0] at this
    simp at this
  generalize Array.filter (fun e => !seen.toArray.contains e.born) (ments l) = L at hmem hall ⊢
  have e1 : L.filter (fun x => decide (x.born < l.length)) = L := Array.filter_eq_self.2 (fun x hx => by simpa using (hmem x (by simpa using hx)).1)
  have e2 : L.filter (fun x => decide (x.born ≥ l.length)) = #[] := by
    rw [Array.filter_eq_empty_iff]
    intro x hx
    have := (hmem x (by simpa using hx)).1
    simp
    omega
  simp only [e1, e2, Array.append_empty]
  by_cases h0 : L.size = 0
  · left
    refine ⟨hall h0, ?_⟩
    have : L = #[] := Array.eq_empty_of_size_eq_zero h0
    subst this
    simp [choose, Sem.run, Question.forced]
  · right
    have hne : L.isEmpty = false := by simp [Array.isEmpty, h0]
    simp only [hne, Bool.false_eq_true, if_false, Array.empty_append, Array.size_map]
    have hch : ∃ (j : Nat) (w1 : World), j < L.size ∧ w1.heap = w.heap ∧ Below w.heap.size w w1 ∧ (choose (Question.mapNext L.size)).run P w = .ok j w1 := by
      by_cases hf : L.size ≤ 1
      · exact ⟨0, w, by omega, rfl, Below.refl _ _, by simp [choose, Sem.run, Question.forced, hf]⟩
      · exact ⟨_, w.drew, Nat.mod_lt _ (by omega), rfl, (Below.refl _ _).drew, by
          simp only [choose, Sem.run, Question.forced, decide_eq_true_eq, hf, if_false, Question.cut]
          rfl⟩
    obtain ⟨i, w1, hi, hh, hB, hrun⟩ := hch
    obtain ⟨_, j, kv, h1, h2, h3⟩ := hmem L[i] (by simp)
    refine ⟨j, kv, w1, h1, h2, hh, hB, ?_⟩
    have hset : ∀ (o' : Obj), (setObj b o').run P w1 = .ok () { w1 with heap := w.heap.setIfInBounds b o' } := fun o' => by
      simp only [setObj, Sem.run, hh, hb]
    simp only [hrun, Array.getElem?_map, Array.getElem?_eq_getElem hi, Option.map_some, Sem.run_bind, hset, Result.andThen, h3]
    simp
theorem run_entryM {P : Program} (w : World) (b bm j : Nat) (l : List (Value × Value)) (seen : List Nat) (kv : Value × Value) (hb : w.heap[b]? = some (.mapIter (some bm) l.length (seen ++ [j]).toArray l.length)) (hm : w.heap[bm]? = some (.map (ments l) l.length)) (hj : l[j]? = some kv) :
    (Instr.entry (.pointer (some ⟨b, 0, none⟩))).run P w = .ok (.tuple #[kv.1, kv.2]) w := by
  have hn : ((ments l).toList.map (·.born)).Nodup := by
    have : (ments l).toList.map (·.born) = List.range l.length := by
      refine List.ext_getElem? fun i => ?_
      rw [List.getElem?_map, Array.getElem?_toList, ments_get]
      by_cases hi : i < l.length
      · rw [List.getElem?_eq_getElem hi, List.getElem?_range hi]; rfl
      · rw [List.getElem?_eq_none (by omega), List.getElem?_eq_none (by simp; omega)]; rfl
    rw [this]
    exact List.nodup_range
  have hf : (ments l).find? (·.born == j) = some { key := kv.1, val := kv.2, born := j } := by
    rw [← Array.find?_toList]
    exact find_born { key := kv.1, val := kv.2, born := j } (ments l).toList hn (ments_at hj)
  have hbk : (seen ++ [j]).toArray.back? = some j := by simp
  simp only [Instr.entry, getObj, Sem.run_bind, Sem.run, hb, hm, Result.andThen, hbk, bne_self_eq_false, Bool.false_eq_true, if_false, hf]
  rfl

section
variable {c : Cx} {s : S} {o : Oper} {g : Nat → Nat × Nat} {a : Act} {w : World} {Q : Exit → S → Prop}
theorem DRep.noit {w w' : World} {q : Nat → Prop} {x : D} {v : Value} (h : DRep w q x v) (hsz : w.heap.size ≤ w'.heap.size) (hk : ∀ (b : Nat) (ob : Obj), w.heap[b]? = some ob → (∀ m s e k, ob ≠ Obj.mapIter m s e k) → w'.heap[b]? = some ob) : DRep w' q x v := by
  have hc : ∀ (b o : Nat) (u : Value), w.cell? ⟨b, o, none⟩ = some u → w'.cell? ⟨b, o, none⟩ = some u := fun b o u h => by
    have h0 := h
    unfold World.cell? at h
    cases hb : w.heap[b]? with
    | none => simp [hb] at h
    | some ob =>
      refine (World.cell?_of_block (w := w) (a := ⟨b, o, none⟩) ((hk b ob hb fun m s e k he => ?_).trans hb.symm)).trans h0
      subst he
      simp [hb] at h
  induction h with
  | p x => exact .p x
  | sl sz bt rows a cap b o f hcp ha hl h1 hr ih =>
    refine .sl sz bt rows a cap b o f hcp (fun hne => ?_) hl (fun i j row u h2 h3 => hc _ _ _ (h1 i j row u h2 h3)) ih
    obtain ⟨e1, e2, e3⟩ := ha hne
    exact ⟨e1, e2, Nat.lt_of_lt_of_le e3 hsz⟩
  | mp l b hb hm => exact .mp l b ⟨hb.1, Nat.lt_of_lt_of_le hb.2 hsz⟩ (hk _ _ hm (fun _ _ _ _ h => by cases h))
  | mm l b bs hb hl hqs hm hi => exact .mm l b bs ⟨hb.1, Nat.lt_of_lt_of_le hb.2 hsz⟩ hl (fun k hk' => ⟨(hqs k hk').1, Nat.lt_of_lt_of_le (hqs k hk').2 hsz⟩) (hk _ _ hm (fun _ _ _ _ h => by cases h)) fun j x k h1 h2 => hk _ _ (hi j x k h1 h2) (fun _ _ _ _ h => by cases h)
theorem VRep.noit {w w' : World} {q : Nat → Prop} {g : Nat → Nat × Nat} {x : V} {v : Value} (h : VRep w q g x v) (hsz : w.heap.size ≤ w'.heap.size) (hk : ∀ (b : Nat) (ob : Obj), w.heap[b]? = some ob → (∀ m s e k, ob ≠ Obj.mapIter m s e k) → w'.heap[b]? = some ob) : x.its = false → VRep w' q g x v := by
  have hc : ∀ (b o : Nat) (u : Value), w.cell? ⟨b, o, none⟩ = some u → w'.cell? ⟨b, o, none⟩ = some u := fun b o u h => by
    have h0 := h
    unfold World.cell? at h
    cases hb : w.heap[b]? with
    | none => simp [hb] at h
    | some ob =>
      refine (World.cell?_of_block (w := w) (a := ⟨b, o, none⟩) ((hk b ob hb fun m s e k he => ?_).trans hb.symm)).trans h0
      subst he
      simp [hb] at h
  have hmp : ∀ (b : Nat) (es : Array MapEntry) (n : Nat), w.heap[b]? = some (Obj.map es n) → w'.heap[b]? = some (Obj.map es n) := fun b es n h => hk _ _ h (fun _ _ _ _ h => by cases h)
  induction h with
  | d x v h => exact fun _ => .d x v (h.noit hsz hk)
  | ad row b o f hb h1 hr => exact fun _ => .ad row b o f ⟨hb.1, Nat.lt_of_lt_of_le hb.2 hsz⟩ (fun j u hu => hc _ _ _ (h1 j u hu)) (fun j u hu => (hr j u hu).noit hsz hk)
  | ref r o => exact fun _ => .ref r o
  | own r sz n hn hcap => exact fun _ => .own r sz n hn hcap
  | ownNil r sz => exact fun _ => .ownNil r sz
  | que r sz o n a cap hn hcap h => exact fun _ => .que r sz o n a cap hn hcap h
  | agg l cs hlen h ih => exact fun hm => .agg l cs hlen fun j u c h1 h2 => ih j u c h1 h2 (V.itsL_false.1 hm u (List.mem_of_getElem? h1))
  | tup l cs hlen h ih => exact fun hm => .tup l cs hlen fun j u c h1 h2 => ih j u c h1 h2 (V.itsL_false.1 hm u (List.mem_of_getElem? h1))
  | fn f l cs hlen h ih => exact fun hm => .fn f l cs hlen fun j u c h1 h2 => ih j u c h1 h2 (V.itsL_false.1 hm u (List.mem_of_getElem? h1))
  | mp r N l hN hm => exact fun _ => .mp r N l hN (hmp _ _ _ hm)
  | mq r N l vs hN hl hll hr hm => exact fun _ => .mq r N l vs hN hl hll (fun j x y i u z h1 h2 h3 h4 => (hr j x y i u z h1 h2 h3 h4).noit hsz hk) (hmp _ _ _ hm)
  | ifc t v x h ih => exact fun hm => .ifc t v x (ih (by simpa [V.its] using hm))
  | mp2 x r r' N l l' hN hN' hne hm hm' => exact fun _ => .mp2 x r r' N l l' hN hN' hne (hmp _ _ _ hm) (hmp _ _ _ hm')
  | it r N s pos hN hm => exact fun _ => .it r N s pos hN (hk _ _ hm (fun _ _ _ _ h => by cases h))
  | mit => exact fun h => by simp [V.its] at h
  | mm r N l bs hN hl hbs hnd hm hi => exact fun _ => .mm r N l bs hN hl hbs hnd (hmp _ _ _ hm) fun j x k h1 h2 => hmp _ _ _ (hi j x k h1 h2)
  | junk v => exact fun _ => .junk v

theorem Sim.upMit (hs : Sim c g s a w) {r rm : Nat} {l : List (Value × Value)} {seen seen' : List Nat} {w1 : World} (hw1 : w1.heap = w.heap) (hB : Below w.heap.size w w1) (hb : w.heap[(g r).1]? = some (.mapIter (some (g rm).1) l.length seen.toArray l.length)) (hmm : w.heap[(g rm).1]? = some (.map (ments l) l.length)) (hN : c.w0.heap.size ≤ (g r).1)
    (hH : ∀ k row, fnd s.H k = some row → V.itsL row.cells = false) (hK : V.itsL s.K = false) (hT : ∀ i k m N l' s', fnd s.T i = some (.mit k m N l' s') → k = r → m = rm ∧ l' = l) :
    Sim c g ⟨s.n, s.T.map (fun x => (x.1, upMI r seen' x.2)), s.H, s.K⟩ a { w1 with heap := w.heap.setIfInBounds (g r).1 (.mapIter (some (g rm).1) l.length seen'.toArray l.length) } := by
  have hlt : (g r).1 < w.heap.size := (Array.getElem?_eq_some_iff.1 hb).1
  obtain ⟨w', hw'⟩ : ∃ w', w' = { w1 with heap := w.heap.setIfInBounds (g r).1 (.mapIter (some (g rm).1) l.length seen'.toArray l.length) } := ⟨_, rfl⟩
  have hsz : w'.heap.size = w.heap.size := by rw [hw']; simp
  have hoth : ∀ b, b ≠ (g r).1 → w'.heap[b]? = w.heap[b]? := fun b hne => by rw [hw']; simp [Array.getElem?_setIfInBounds_ne (Ne.symm hne)]
  have hnew : w'.heap[(g r).1]? = some (.mapIter (some (g rm).1) l.length seen'.toArray l.length) := by rw [hw']; simp [hlt]
  have hk : ∀ (b : Nat) (ob : Obj), w.heap[b]? = some ob → (∀ m s e k, ob ≠ Obj.mapIter m s e k) → w'.heap[b]? = some ob := fun b ob h1 h2 => (hoth b fun e => by
    subst e
    rw [hb] at h1
    simp only [Option.some.injEq] at h1
    exact h2 _ _ _ _ h1.symm).trans h1
  have hm : ∀ {v x}, v.its = false → VRep w (qt c s.H g) g v x → VRep w' (qt c s.H g) g v x := fun hv h => h.noit (by omega) hk hv
  rw [← hw']
  refine ⟨hs.size, hs.defers, ?_, hs.nul, ?_, ?_, hs.inj, hs.base, hs.low, ?_⟩
  · intro i v hv
    simp only at hv
    rw [fnd_map] at hv
    cases hu : fnd s.T i with
    | none => rw [hu] at hv; cases hv
    | some u =>
      rw [hu] at hv
      simp only [Option.map_some, Option.some.injEq] at hv
      obtain ⟨x, h1, h2⟩ := hs.tmp i u hu
      refine ⟨x, h1, ?_⟩
      subst hv
      have hgen : ∀ u : V, VRep w (qt c s.H g) g u x → VRep w' (qt c s.H g) g (if u.its then .junk else u) x := by
        intro u h2
        split
        · exact .junk _
        · rename_i hne; exact hm (by simpa using hne) h2
      cases u with
      | mit k m N l0 s0 =>
        simp only [upMI]
        split
        · rename_i e
          obtain ⟨e1, e2⟩ := hT i _ _ _ _ _ hu e
          subst e e1 e2
          cases h2 with
          | mit _ _ _ _ _ h3 _ _ => exact .mit _ _ _ _ _ h3 hnew (hk _ _ hmm (fun _ _ _ _ h => by cases h))
        · exact .junk _
      | d _ => exact hgen _ h2
      | ad _ => exact hgen _ h2
      | ref _ _ => exact hgen _ h2
      | own _ _ _ _ => exact hgen _ h2
      | que _ _ _ _ => exact hgen _ h2
      | agg _ => exact hgen _ h2
      | tup _ => exact hgen _ h2
      | fn _ _ => exact hgen _ h2
      | mp _ _ _ => exact hgen _ h2
      | mq _ _ _ => exact hgen _ h2
      | mp2 _ _ _ _ _ _ => exact hgen _ h2
      | ifc _ _ => exact hgen _ h2
      | it _ _ _ _ => exact hgen _ h2
      | mm _ _ _ => exact hgen _ h2
      | junk => exact .junk _
  · intro k row hk' hn
    obtain ⟨arr, h1, h2, h3⟩ := hs.obj k row hk' hn
    refine ⟨arr, hk _ _ h1 (fun _ _ _ _ h => by cases h), h2, fun j v hv => ?_⟩
    obtain ⟨x, h4, h5⟩ := h3 j v hv
    exact ⟨x, h4, hm (V.itsL_false.1 (hH k row hk') v (List.mem_of_getElem? hv)) h5⟩
  · intro j v x h1 h2
    exact hm (V.itsL_false.1 hK v (List.mem_of_getElem? h1)) (hs.keep j v x h1 h2)
  · have hb1 := hs.below.trans (hB.mono hs.below.size)
    refine hb1.trans ⟨by rw [hw'], by rw [hw'], by rw [hw'], by rw [hsz, hw1]; exact Nat.le_refl _, fun k hk' => (hoth k ?_).trans (by rw [hw1])⟩
    omega

theorem S.clean_ev {r : Nat} (h : s.clean r = true) {x : Operand} {v : V} (hx : s.ev x = some v) : v.has r = false := by
  cases x with
  | tmp t => exact S.clean_tmp h hx
  | const y => simp only [S.ev, Option.some.injEq] at hx; subst hx; rfl
  | global k => simp only [S.ev, Option.some.injEq] at hx; subst hx; rfl
  | func f => simp only [S.ev, Option.some.injEq] at hx; subst hx; rfl
theorem sm_rangeM (r : Nat) {t k e : TypeId} {x : Operand} {rm N : Nat} {l : List (Value × Value)} (hu : c.P.underlying t = some (.map k e)) (ho : o.op = .range t x) (hx : s.ev x = some (.mp rm N l)) (hr : s.clean r = true) (hd : dok s o = true) : StepM c o s (fun s' => s' = s.put o.dst (.mit r rm c.w0.heap.size l [])) := by
  intro g a w hs K Q hK
  have hb : Below w.heap.size w (w.alloc (.mapIter (some (g rm).1) l.length #[] l.length)) := (Below.refl _ _).alloc (Nat.le_refl _) _
  have h1 := (hs.move hb).regauge hr (w.heap.size, 0)
  have hne : rm ≠ r := by
    have := S.clean_ev hr hx
    simpa [V.has] using this
  obtain ⟨hxe, hm⟩ : a.eval x = .map (some (g rm).1) ∧ w.heap[(g rm).1]? = some (.map (ments l) l.length) := by
    have h := hs.ev hx
    generalize a.eval x = u at h
    cases h with
    | mp _ _ _ _ h2 => exact ⟨rfl, h2⟩
  unfold Oper.wp
  have hexec : (execOp a.eval o).run c.P w = .ok (.value (.pointer (some ⟨w.heap.size, 0, none⟩))) (w.alloc (.mapIter (some (g rm).1) l.length #[] l.length)) := by
    simp only [execOp, ho, hxe, Sem.run_bind, run_range_map w t k e (g rm).1 (ments l) l.length hu hm, Result.andThen_ok]
    rfl
  rw [hexec]
  refine hK _ _ _ _ rfl (h1.put o.dst (dok_spec hd) ?_) hb
  have hg : (if rm = r then (w.heap.size, 0) else g rm) = g rm := if_neg hne
  have := VRep.mit (w := w.alloc (.mapIter (some (g rm).1) l.length #[] l.length)) (q := qt c s.H (fun k => if k = r then (w.heap.size, 0) else g k)) (g := fun k => if k = r then (w.heap.size, 0) else g k) r rm c.w0.heap.size l [] (by simp; exact hs.below.size) (by simp only [if_true, hg]; exact heap_alloc_new w _) (by simp only [hg]; exact (hb.block _ (Array.getElem?_eq_some_iff.1 hm).1).trans hm)
  simpa using this
theorem mit_eval (hs : Sim c g s a w) {x : Operand} {r rm N : Nat} {l : List (Value × Value)} {seen : List Nat} (hx : s.ev x = some (.mit r rm N l seen)) : a.eval x = .pointer (some ⟨(g r).1, 0, none⟩) ∧ N ≤ (g r).1 ∧ w.heap[(g r).1]? = some (.mapIter (some (g rm).1) l.length seen.toArray l.length) ∧ w.heap[(g rm).1]? = some (.map (ments l) l.length) := by
  have h := hs.ev hx
  generalize a.eval x = u at h
  cases h with
  | mit _ _ _ _ _ h1 h2 h3 => exact ⟨rfl, h1, h2, h3⟩
/-- The step: nothing is left, or one comes that has not come yet. -/
theorem AL.nextM {ops : Array Oper} {rest : List Oper} {t r rm N : Nat} {l : List (Value × Value)} {seen : List Nat} (hg : o.guard = none) (ho : o.op = .next (.tmp t) false) (hx : fnd s.T t = some (.mit r rm N l seen)) (hN : N = c.w0.heap.size) (hH : s.H.all (fun x => !V.itsL x.2.cells) = true) (hK : V.itsL s.K = false)
    (hT : s.T.all (fun x => match x.2 with | .mit k _ _ _ _ => decide (k ≠ r) || decide (x.1 = t) | _ => true) = true) (hd : dok s o = true)
    (h0 : (∀ j, j < l.length → j ∈ seen) → AL c ops rest Q (s.put o.dst (.tup [.b false])))
    (h1 : ∀ (j : Nat) (kv : Value × Value), l[j]? = some kv → j ∉ seen → AL c ops rest Q (S.put ⟨s.n, s.T.map (fun x => (x.1, upMI r (seen ++ [j]) x.2)), s.H, s.K⟩ o.dst (.tup [.b true, .junk, .junk]))) : AL c ops (o :: rest) Q s := by
  subst hN
  refine AL.step hg ?_
  intro g a w hs K Q' hK'
  obtain ⟨hxe, hNb, hm, hmm⟩ := mit_eval (x := .tmp t) hs hx
  unfold Oper.wp
  rcases run_nextM (P := c.P) w o.type (g r).1 (g rm).1 l seen hm hmm with ⟨h2, hrun⟩ | ⟨j, kv, w1, h2, h3, h4, h5, hrun⟩
  · have hexec : (execOp a.eval o).run c.P w = .ok (.value (.tuple #[.bool false])) w := by
      simp only [execOp, ho, hxe, Sem.run_bind, hrun, Result.andThen_ok]
      rfl
    rw [hexec]
    refine hK' g _ _ _ (h0 h2) (hs.put o.dst (dok_spec hd) ?_)
    exact .tup _ [.bool false] rfl fun j u y hu hy => by
      match j, hu, hy with
      | 0, hu, hy => simp at hu hy; subst hu hy; exact .d _ _ (.p _)
      | n + 1, hu, hy => simp at hu
  · have hexec : (execOp a.eval o).run c.P w = .ok (.value (.tuple #[.bool true, kv.1, kv.2])) { w1 with heap := w.heap.setIfInBounds (g r).1 (.mapIter (some (g rm).1) l.length (seen ++ [j]).toArray l.length) } := by
      simp only [execOp, ho, hxe, Sem.run_bind, hrun, Result.andThen_ok]
      rfl
    rw [hexec]
    have hsim := hs.upMit (seen' := seen ++ [j]) h4 h5 hm hmm hNb (fun k row hk => by
      have := List.all_eq_true.1 hH _ (fnd_mem hk)
      simpa using this) hK (fun i k m N' l' s' hi he => by
      have := List.all_eq_true.1 hT _ (fnd_mem hi)
      simp only [Bool.or_eq_true, decide_eq_true_eq] at this
      rcases this with h | h
      · exact absurd he h
      · subst h
        rw [hx] at hi
        cases hi
        exact ⟨rfl, rfl⟩)
    refine hK' g _ _ _ (h1 j kv h2 h3) (hsim.put o.dst (dok_spec (s := s) hd) ?_)
    exact .tup _ [.bool true, kv.1, kv.2] rfl fun j u y hu hy => by
      match j, hu, hy with
      | 0, hu, hy => simp at hu hy; subst hu hy; exact .d _ _ (.p _)
      | 1, hu, hy => simp at hu hy; subst hu; exact .junk _
      | 2, hu, hy => simp at hu hy; subst hu; exact .junk _
      | n + 3, hu, hy => simp at hu
theorem rd_entryM {x : Operand} {r rm N j : Nat} {l : List (Value × Value)} {seen : List Nat} {kv : Value × Value} {vk vv : V} (ho : o.op = .entry x) (hx : s.ev x = some (.mit r rm N l (seen ++ [j]))) (hj : l[j]? = some kv) (hk : ∀ w q g, VRep w q g vk kv.1) (hv : ∀ w q g, VRep w q g vv kv.2) : RD c o s (.tup [vk, vv]) := fun g a w hs => by
  obtain ⟨hxe, hNb, hm, hmm⟩ := mit_eval hs hx
  refine ⟨.tuple #[kv.1, kv.2], .tup _ [kv.1, kv.2] rfl fun j u y hu hy => by
    match j, hu, hy with
    | 0, hu, hy => simp at hu hy; subst hu hy; exact hk _ _ _
    | 1, hu, hy => simp at hu hy; subst hu hy; exact hv _ _ _
    | n + 2, hu, hy => simp at hu, fun w' hb => ?_⟩
  have hrun := run_entryM (P := c.P) w' (g r).1 (g rm).1 j l seen kv ((hb.block _ (Array.getElem?_eq_some_iff.1 hm).1).trans hm) ((hb.block _ (Array.getElem?_eq_some_iff.1 hmm).1).trans hmm) hj
  simp only [execOp, ho, hxe, Sem.run_bind, hrun, Result.andThen_ok]
  rfl
end
section
variable {c : Cx} {s : S} {o : Oper} {Q : Exit → S → Prop}
theorem rd_nextEndM {x : Operand} {r rm N : Nat} {l : List (Value × Value)} {seen : List Nat} (ho : o.op = .next x false) (hx : s.ev x = some (.mit r rm N l seen)) (hall : ∀ j, j < l.length → j ∈ seen) : RD c o s (.tup [.b false]) := fun g a w hs => by
  obtain ⟨hxe, hNb, hm, hmm⟩ := mit_eval hs hx
  refine ⟨.tuple #[.bool false], .tup _ [.bool false] rfl fun j u y hu hy => by
    match j, hu, hy with
    | 0, hu, hy => simp at hu hy; subst hu hy; exact .d _ _ (.p _)
    | n + 1, hu, hy => simp at hu, fun w' hb => ?_⟩
  rcases run_nextM (P := c.P) w' o.type (g r).1 (g rm).1 l seen ((hb.block _ (Array.getElem?_eq_some_iff.1 hm).1).trans hm) ((hb.block _ (Array.getElem?_eq_some_iff.1 hmm).1).trans hmm) with ⟨_, hrun⟩ | ⟨j, kv, w1, h2, h3, _⟩
  · simp only [execOp, ho, hxe, Sem.run_bind, hrun, Result.andThen_ok]
    rfl
  · exact absurd (hall j (List.getElem?_eq_some_iff.1 h2).1) h3
theorem AL.nextN {ops : Array Oper} {rest : List Oper} {t r rm N : Nat} {l : List (Value × Value)} {seen : List Nat} (hg : o.guard = none) (ho : o.op = .next (.tmp t) false) (hx : fnd s.T t = some (.mit r rm N l seen)) (hN : N = c.w0.heap.size) (hH : s.H.all (fun x => !V.itsL x.2.cells) = true) (hK : V.itsL s.K = false)
    (hT : s.T.all (fun x => match x.2 with | .mit k _ _ _ _ => decide (k ≠ r) || decide (x.1 = t) | _ => true) = true) (hd : dok s o = true) (hne : ¬ ∀ j, j < l.length → j ∈ seen)
    (h1 : ∀ (j : Nat) (kv : Value × Value), l[j]? = some kv → j ∉ seen → AL c ops rest Q (S.put ⟨s.n, s.T.map (fun x => (x.1, upMI r (seen ++ [j]) x.2)), s.H, s.K⟩ o.dst (.tup [.b true, .junk, .junk]))) : AL c ops (o :: rest) Q s :=
  AL.nextM hg ho hx hN hH hK hT hd (fun h => absurd h hne) h1
theorem rp_indexA {t e : TypeId} {x y : Operand} {sz bt len r k0 k : Nat} {z : Value} {n' : Int} {kd : IntKind} (hu : c.P.underlying t = some (.array len e)) (hi : Inf c.P e sz bt z) (ho : o.op = .indexAddr t x y) (hx : s.ev x = some (.ref r k0)) (hy : s.ev y = some (.d (.p (.int kd n')))) (hk : n' = (k : Int)) (hlt : k < len) (h2 : 2 ≤ len) : RP c o s (.ref r (k0 + k * sz)) := fun g a w hs => by
  have h := hs.ev hx
  refine ⟨.pointer (some ⟨(g r).1, k0 + k * sz, none⟩), .ref _ _, fun w' => ?_⟩
  generalize hxe : a.eval x = u at h
  cases h
  subst hk
  have hlt' : (k : Int) < len := by omega
  have htiny : ¬ len ≤ 1 := by omega
  simp [execOp, ho, hxe, VRep.p_eq (hs.ev hy), Instr.indexAt, Instr.sureAddr, asIntOf, run_underlying hu, run_sizeOf hi, hlt', addr_add, hlt, htiny]
theorem itsL_flat {α : Type} (f : α → List V) (hf : ∀ x, V.itsL (f x) = false) : ∀ l : List α, V.itsL (l.flatMap f) = false
  | [] => rfl
  | x :: l => by
    rw [List.flatMap_cons, V.itsL_false]
    intro v hv
    rcases List.mem_append.1 hv with h | h
    · exact V.itsL_false.1 (hf x) v h
    · exact V.itsL_false.1 (itsL_flat f hf l) v h
theorem itsL_arV2 (l : List Ar) : V.itsL (l.flatMap arV2) = false := itsL_flat _ (fun _ => rfl) l
theorem itsL_stV2 (l : List St) : V.itsL (l.flatMap stV2) = false := itsL_flat _ (fun _ => rfl) l
theorem mpsL_arV2 (l : List Ar) : V.mpsL (l.flatMap arV2) = false := mpsL_flat _ (fun _ => rfl) l
theorem mpsL_stV2 (l : List St) : V.mpsL (l.flatMap stV2) = false := mpsL_flat _ (fun x => by simp [stV2, stD, V.mpsL, V.mps, D.mps, mpsR_ars]) l
theorem mpsR_intsE (l : List Int) : D.mpsR (l.map fun x => [D.p (.int .i64 x)]) = false := mpsR_map _ (fun _ => rfl) l
theorem upM_agg3p (r : Nat) (l : List (Value × Value)) (a b d : Value) : upM r l (.agg [.d (.p a), .d (.p b), .d (.p d)]) = .agg [.d (.p a), .d (.p b), .d (.p d)] := rfl
theorem upM_agg4p (r : Nat) (l : List (Value × Value)) (a b d e : Value) : upM r l (.agg [.d (.p a), .d (.p b), .d (.p d), .d (.p e)]) = .agg [.d (.p a), .d (.p b), .d (.p d), .d (.p e)] := rfl
end
section
variable (r : Nat) (seen : List Nat)
theorem upMI_tup2 (x y : D) : upMI r seen (.tup [.d x, .d y]) = .tup [.d x, .d y] := rfl
theorem upMI_d (x : D) : upMI r seen (.d x) = .d x := rfl
theorem upMI_ref (a b : Nat) : upMI r seen (.ref a b) = .ref a b := rfl
theorem upMI_own (a b n : Nat) (z : Bool) : upMI r seen (.own a b n z) = .own a b n z := rfl
theorem upMI_mp (a N : Nat) (l : List (Value × Value)) : upMI r seen (.mp a N l) = .mp a N l := rfl
theorem upMI_junk : upMI r seen .junk = .junk := rfl
theorem upMI_mit (rm N : Nat) (l : List (Value × Value)) (s : List Nat) : upMI r seen (.mit r rm N l s) = .mit r rm N l seen := by simp [upMI]
end
end Go.Proofs.Ythlcginebeapdaa
namespace Go.Proofs.Ythlcginebeapdaa
open Go.RowKit
set_option linter.unusedSimpArgs false
set_option linter.unusedVariables false
set_option maxRecDepth 100000

section
variable {c : Cx} {s : S} {o : Oper}
/-- Is a slice of plain data nil? Only an empty one may be. -/
theorem sm_eqnil {t t' e : TypeId} {x y : Operand} {sz bt : Nat} {rows : List (List D)} (hu : c.P.underlying t = some (.slice e)) (ho : o.op = .binOp .eql t x y t') (hx : s.ev x = some (.d (.sl sz bt rows))) (hy : s.ev y = some .nil) (hd : dok s o = true) :
  StepM c o s (fun s' => ∃ v, (∃ b : Bool, v = .b b ∧ (b = true → rows = [])) ∧ v.pure ∧ s' = s.put o.dst v) := by
 intro g a w hs K Q hK
 have h := hs.ev hx
 have hyv := VRep.p_eq (hs.ev hy)
 have hrun : ∀ (ad : Option Addr) (n cap : Nat), (binOp .eql t (.slice ad n cap) (.slice none 0 0)).run c.P w = .ok (.bool ad.isNone) w := by
  intro ad n cap
  have key : ∀ d : Nat, (Op.equalIn (d + 1) t (.slice ad n cap) (.slice none 0 0)).run c.P w = .ok ad.isNone w := fun d => by
   cases ad <;> simp [Op.equalIn, run_underlying hu]
  have h2 : (Op.equal t (.slice ad n cap) (.slice none 0 0)).run c.P w = .ok ad.isNone w := key 9999
  simp only [binOp, Sem.run_bind, h2, Result.andThen_ok]
  rfl
 have hgd : ∀ (ad : Option Addr) (n cap : Nat), (eqGuard .eql t x y (.slice ad n cap) (.slice none 0 0)).run c.P w = .ok () w := by
  intro ad n cap; simp [eqGuard]
 generalize hxx : a.eval x = u at h
 cases h with
 | d _ _ h =>
  cases h with
  | sl _ _ _ ad cap b o' f _ ha hl hc hr =>
   unfold Oper.wp
   have hexec : (execOp a.eval o).run c.P w = .ok (.value (.bool ad.isNone)) w := by
    simp only [execOp, ho, hxx, hyv, Sem.run_bind, hgd, hrun, Result.andThen_ok]
    rfl
   rw [hexec]
   refine hK g _ _ _ ⟨.b ad.isNone, ⟨_, rfl, fun hb => ?_⟩, by simp [V.pure, V.has], rfl⟩ (hs.put o.dst (dok_spec hd) (.d _ _ (.p _))) (Below.refl _ _)
   by_cases h0 : rows = []
   ·exact h0
   ·obtain ⟨rfl, _⟩ := ha h0
    cases hb
/-- An empty slice literal. -/
theorem sm_slice0 (r : Nat) {t e : TypeId} {sz bt : Nat} {z : Value} (hu : c.P.underlying t = some (.slice e)) (hi : Inf c.P e sz bt z) (ho : o.op = .buildSlice t 0 #[]) (hr : s.clean r = true) (hd : dok s o = true) :
  StepM c o s (fun s' => s' = s.newObj r ⟨e, [], false, sz⟩ o.dst (.own r sz 0 false)) :=
 (sm_newG (cap := 0) hr rfl rfl hd (fun g a w hs => by
  refine ⟨#[], .slice (some ⟨w.heap.size, 0, none⟩) 0 0, fun _ => by simp, ?_, fun j u hu => by simp at hu, ?_⟩
  ·simp [execOp, ho, Instr.buildSlice, run_underlying hu, run_sizeOf hi, newRow, Instr.fill]
   rw [show (Array.map (fun _ => (default : Value)) (Array.range 0)) = #[] from Array.eq_empty_of_size_eq_zero (by simp)]
  ·exact VRep.own (g := fun _ => (w.heap.size, 0)) _ _ _ (Nat.le_refl _) (by simp only [maxLen]; omega)) ⟨0, .inr ⟨_, _, rfl⟩⟩).stepM
/-- append of nothing. -/
theorem rp_append_none {t e : TypeId} {x y : Operand} {r sz bt n sz' bt' : Nat} {z : Value} {f : Bool} (hu : c.P.underlying t = some (.slice e)) (hi : Inf c.P e sz bt z)
  (ho : o.op = .call { callee := .builtin .append, args := #[x, y], argTypes := #[t, t] }) (hx : s.ev x = some (.own r sz n f)) (hy : s.ev y = some (.d (.sl sz' bt' []))) : RP c o s (.own r sz n f) := fun g a w hs => by
 have h := hs.ev hx
 have h2 := hs.ev hy
 obtain ⟨i, hi1, hi2, hi3, hi4⟩ := hi.out
 obtain ⟨ad, cap, hyv⟩ : ∃ ad cap, a.eval y = .slice ad 0 cap := by
  generalize a.eval y = u at h2
  cases h2 with
  | d _ _ h => cases h with | sl _ _ _ ad cap => exact ⟨ad, cap, rfl⟩
 refine ⟨a.eval x, h, fun w' => ?_⟩
 generalize hxx : a.eval x = u at h
 have hsrc : Src c.P i.size t (.slice ad 0 cap) 0 [] w' := by
  cases ad
  ·exact ⟨.inl ⟨e, hu⟩, fun _ => rfl, by simp [Builtin.firstCells, Sem.run], by simp [Builtin.firstCells, Sem.run], by simp, by simp⟩
  ·exact ⟨.inl ⟨e, hu⟩, fun _ => rfl, by simp [Builtin.firstCells, Sem.run, loadCells, loadCellsFrom], by simp [Builtin.firstCells, Sem.run, loadCells, loadCellsFrom], by simp, by simp⟩
 cases h with
 | own _ _ _ hn hcap =>
  simp only [execOp, ho, resolve, invoke, builtin, Sem.run_bind, Sem.run_pure, Result.andThen_ok, List.map_toArray, List.map_cons, List.map_nil, hxx, hyv]
  rw [run_append_nothing w' t t o.type e i hu hi1 _ n (g r).2 hn _ hsrc]
  rfl
 | ownNil =>
  simp only [execOp, ho, resolve, invoke, builtin, Sem.run_bind, Sem.run_pure, Result.andThen_ok, List.map_toArray, List.map_cons, List.map_nil, hxx, hyv]
  rw [run_append_nothing w' t t o.type e i hu hi1 none 0 0 (Nat.le_refl _) _ hsrc]
  rfl
end
end Go.Proofs.Ythlcginebeapdaa
namespace Go.Proofs.Ythlcginebeapdaa
open Go.RowKit
set_option linter.unusedSimpArgs false
set_option linter.unusedVariables false
set_option maxRecDepth 100000

section
variable {c : Cx} {s : S} {o : Oper}
variable {Q : Exit → S → Prop} {L : List Oper} {need : Nat → Bool} {l : List (Nat × Bool)} {i r : Nat}
theorem AE1.rxy {v : V} {j : Nat} {b : Bool} (hi : L[i]? = some o) (hg : o.guard = some (j, b)) (hy : yld L.toArray s j = some b) (hd : dok s o = true) (hp : noP Q) (h : RX c o s r v) (hN : AE1 c L.toArray Q need r l (s.put o.dst v)) : AE1 c L.toArray Q need r ((i, true) :: l) s := fun e g a w hs he hl => by
  obtain ⟨x, h1, h2⟩ := h e g a w hs he
  exact ⟨o, x, by simpa using hi, .inl ⟨by simp [Region.wanted, hg, yld_spec hy hs], h2⟩, BX.refl _, QQ_noP hp _ _, hN e g _ w (hs.put o.dst (dok_spec hd) h1) he.put hl⟩
theorem AE1.rpy {v : V} {j : Nat} {b : Bool} (hi : L[i]? = some o) (hg : o.guard = some (j, b)) (hy : yld L.toArray s j = some b) (hd : dok s o = true) (hp : noP Q) (h : RP c o s v) (hN : AE1 c L.toArray Q need r l (s.put o.dst v)) : AE1 c L.toArray Q need r ((i, true) :: l) s := AE1.rxy hi hg hy hd hp h.rx hN
theorem AE1.no {j : Nat} {b b' : Bool} (hi : L[i]? = some o) (hg : o.guard = some (j, b)) (hy : yld L.toArray s j = some b') (hb : (b' == b) = false) (hd : dok s o = true) (hp : noP Q) (hN : AE1 c L.toArray Q need r l (s.put o.dst .junk)) : AE1 c L.toArray Q need r ((i, true) :: l) s := fun e g a w hs he hl =>
  ⟨o, undef, by simpa using hi, .inr ⟨by simp only [Region.wanted, hg, yld_spec hy hs]; simpa using hb, rfl⟩, BX.refl _, QQ_noP hp _ _, hN e g _ w (hs.put o.dst (dok_spec hd) (.junk _)) he.put hl⟩
theorem AE1.noV {j : Nat} {b b' : Bool} (hi : L[i]? = some o) (hg : o.guard = some (j, b)) (hy : yld L.toArray s j = some b') (hb : (b' == b) = false) (hd : dok s o = true) (hp : noP Q) (hN : AE1 c L.toArray Q need r l (s.put o.dst (.d (.p undef)))) : AE1 c L.toArray Q need r ((i, true) :: l) s := fun e g a w hs he hl =>
  ⟨o, undef, by simpa using hi, .inr ⟨by simp only [Region.wanted, hg, yld_spec hy hs]; simpa using hb, rfl⟩, BX.refl _, QQ_noP hp _ _, hN e g _ w (hs.put o.dst (dok_spec hd) (.d _ _ (.p _))) he.put hl⟩
theorem AE1.noU {j : Nat} {b : Bool} (hi : L[i]? = some o) (hg : o.guard = some (j, b)) (hy : und L.toArray s j) (hd : dok s o = true) (hp : noP Q) (hN : AE1 c L.toArray Q need r l (s.put o.dst (.d (.p undef)))) : AE1 c L.toArray Q need r ((i, true) :: l) s := fun e g a w hs he hl =>
  ⟨o, undef, by simpa using hi, .inr ⟨by simp only [Region.wanted, hg, und_spec hy hs]; simp, rfl⟩, BX.refl _, QQ_noP hp _ _, hN e g _ w (hs.put o.dst (dok_spec hd) (.d _ _ (.p _))) he.put hl⟩
end
end Go.Proofs.Ythlcginebeapdaa
namespace Go.Proofs.Ythlcginebeapdaa
open Go.RowKit
set_option linter.unusedSimpArgs false
set_option linter.unusedVariables false
section
variable {c : Cx} {s : S} {o : Oper}
end
end Go.Proofs.Ythlcginebeapdaa
namespace Go.Proofs.Ythlcginebeapdaa
open Go.RowKit
set_option linter.unusedSimpArgs false
set_option linter.unusedVariables false

section
variable {c : Cx} {s : S} {o : Oper}
theorem st_enter (l : List Nat) {ts : List V} {f : FuncId} {fn : Func} {code : Code} {n : Nat} {rs : List ResultVar} {ars : List V} {N : S → Prop} (hts : l.map (fun i => fnd s.T i) = ts.map some) (hf : Is c.P f fn code n rs) (hn : ars.length ≤ n) (hd : dok s o = true)
    (hex : ∀ g a w, Sim c g s a w → ∃ xs : List Value, (execOp a.eval o).run c.P w = .ok (.enter f xs.toArray) w ∧ VReps w (qt c s.H g) g ars xs)
    (h : ∀ kx, AW ⟨c.P, c.w0, c.out, kx, []⟩ code (QI c.P rs s.n l o.dst N) ⟨n, enum 0 ars, s.H, ts ++ s.K⟩) : Step c o s N := by
  intro g a w hs K Q hK
  obtain ⟨xs, hrun, harl, harg⟩ := hex g a w hs
  have hll : l.length = ts.length := by simpa using congrArg List.length hts
  have hlt : ∀ (j i : Nat) (v : V), l[j]? = some i → ts[j]? = some v → fnd s.T i = some v := by
    intro j i v h1 h2
    have h3 := congrArg (fun l => l[j]?) hts
    simp only [List.getElem?_map, h1, h2, Option.map_some, Option.some.injEq] at h3
    exact h3
  have hlt' : ∀ (j i : Nat), l[j]? = some i → ∃ v x, ts[j]? = some v ∧ fnd s.T i = some v ∧ a.tmps[i]? = some x ∧ VRep w (qt c s.H g) g v x := by
    intro j i h1
    have hj : j < ts.length := by rw [← hll]; exact (List.getElem?_eq_some_iff.1 h1).1
    have h2 := hlt j i ts[j] h1 (List.getElem?_eq_getElem hj)
    obtain ⟨x, h3, h4⟩ := hs.tmp i _ h2
    exact ⟨_, x, List.getElem?_eq_getElem hj, h2, h3, h4⟩
  have hsim : Sim ⟨c.P, c.w0, c.out, l.map (fun i => a.tmps.getD i undef) ++ c.kx, []⟩ g ⟨n, enum 0 ars, s.H, ts ++ s.K⟩ { tmps := xs.toArray ++ Array.replicate (fn.ntmps - xs.toArray.size) undef, defers := [] } w := by
    refine ⟨?_, rfl, ?_, hs.nul, hs.obj, ?_, hs.inj, hs.base, hs.low, hs.below⟩
    · simp [hf.ntmps]; omega
    · intro i v hv
      obtain ⟨_, h2⟩ := fnd_enum _ 0 i v hv
      simp only [Nat.sub_zero] at h2
      have hi : i < xs.length := by
        have := (List.getElem?_eq_some_iff.1 h2).1
        omega
      refine ⟨xs[i], ?_, ?_⟩
      · rw [hf.ntmps]
        exact enter_get (List.getElem?_eq_getElem hi) (by omega)
      · exact harg i v _ h2 (List.getElem?_eq_getElem hi)
    · intro j v x h1 h2
      by_cases hj : j < ts.length
      · rw [List.getElem?_append_left hj] at h1
        rw [List.getElem?_append_left (by simp; omega)] at h2
        simp only [List.getElem?_map] at h2
        cases h3 : l[j]? with
        | none => rw [h3] at h2; cases h2
        | some i =>
          rw [h3] at h2
          simp only [Option.map_some, Option.some.injEq] at h2
          obtain ⟨v', x', h4, h5, h6, h7⟩ := hlt' j i h3
          rw [h4] at h1
          simp only [Option.some.injEq] at h1
          subst h1
          have : x = x' := by rw [← h2]; simp [Array.getD_eq_getD_getElem?, h6]
          subst this
          exact h7
      · rw [List.getElem?_append_right (by omega)] at h1
        rw [List.getElem?_append_right (by simp; omega)] at h2
        refine hs.keep (j - ts.length) v x h1 ?_
        simpa [hll] using h2
  unfold Oper.wp
  rw [hrun]
  simp only [Oper.upon]
  refine calls_of_wp hf.func hf.body (wp_mono (h (l.map (fun i => a.tmps.getD i undef) ++ c.kx) g _ w hsim) fun e a1 w1 hq => ?_)
  obtain ⟨g1, s1, h1, h2⟩ := hq
  have fin : (∃ vs, resL c.P s1 rs vs ∧ N (S.put ⟨s.n, l.zip s1.K, s1.H, s1.K.drop l.length⟩ o.dst (tupOf vs))) →
      a1.defers = [] ∧ ∃ v, (results fn a1.tmps).run c.P w1 = .ok v w1 ∧ K (a.put o.dst v) w1 := by
    rintro ⟨vs, k1, k2⟩
    obtain ⟨x, k3, k4⟩ := run_results (c := ⟨c.P, c.w0, c.out, l.map (fun i => a.tmps.getD i undef) ++ c.kx, []⟩) hf.results h2 k1
    refine ⟨h2.defers, x, k4, ?_⟩
    refine hK g1 _ _ _ k2 (Sim.put (s := ⟨s.n, l.zip s1.K, s1.H, s1.K.drop l.length⟩) (c := c) ?_ o.dst (dok_spec (s := s) hd) k3)
    refine ⟨hs.size, hs.defers, ?_, h2.nul, h2.obj, ?_, h2.inj, h2.base, h2.low, h2.below⟩
    · intro i v hv
      obtain ⟨j, h3, h4⟩ := fnd_zip _ _ i v hv
      obtain ⟨v', x', h5, h6, h7, h8⟩ := hlt' j i h3
      refine ⟨x', h7, h2.keep j v x' h4 ?_⟩
      have hj : j < l.length := (List.getElem?_eq_some_iff.1 h3).1
      simp only
      rw [List.getElem?_append_left (by simpa using hj)]
      simp [h3, Array.getD_eq_getD_getElem?, h7]
    · intro j v x h3 h4
      refine h2.keep (l.length + j) v x (by simpa using h3) ?_
      simp only
      rw [List.getElem?_append_right (by simp)]
      simpa using h4
  cases e with
  | normal => exact fin h1
  | ret => exact fin h1
  | _ => exact h1.elim
end

/-- How a call ends that worked on its caller's objects: result, objects, kept values. -/
def QP (P : Program) (rs : List ResultVar) (post : V → List (Nat × Row) → List V → Prop) : Exit → S → Prop
  | .normal, s => ∃ vs, resL P s rs vs ∧ post (tupOf vs) s.H s.K
  | .ret, s => ∃ vs, resL P s rs vs ∧ post (tupOf vs) s.H s.K
  | _, _ => False
/-- How the caller goes on. -/
def back (s : S) (l : List Nat) (d : Option Tmp) (v : V) (H : List (Nat × Row)) (K : List V) : S := S.put ⟨s.n, l.zip K, H, K.drop l.length⟩ d v
/-- A call of function f with the objects H and the kept values K. -/
def PC (P : Program) (f : FuncId) (args : List V) (H : List (Nat × Row)) (K : List V) (post : V → List (Nat × Row) → List V → Prop) : Prop :=
  ∀ (c : Cx) (s : S) (o : Oper) (fx : Operand) (xs : Array Operand) (tys : Array TypeId) (l : List Nat) (ts : List V), c.P = P → o.op = .call { callee := .value fx, args := xs, argTypes := tys } → s.ev fx = some (.fn f []) → xs.toList.map s.ev = args.map some →
    l.map (fun i => fnd s.T i) = ts.map some → s.H = H → ts ++ s.K = K → dok s o = true → Step c o s (fun s' => ∃ v H' K', post v H' K' ∧ s' = back s l o.dst v H' K')
/-- A call of a method through an interface value that holds v of type t. -/
def PM (P : Program) (t : TypeId) (v : V) (name : String) (args : List V) (H : List (Nat × Row)) (K : List V) (post : V → List (Nat × Row) → List V → Prop) : Prop :=
  ∀ (c : Cx) (s : S) (o : Oper) (rx : Operand) (xs : Array Operand) (tys : Array TypeId) (l : List Nat) (ts : List V), c.P = P → o.op = .call { callee := .invoke rx name, args := xs, argTypes := tys } → s.ev rx = some (.ifc t v) → xs.toList.map s.ev = args.map some →
    l.map (fun i => fnd s.T i) = ts.map some → s.H = H → ts ++ s.K = K → dok s o = true → Step c o s (fun s' => ∃ v H' K', post v H' K' ∧ s' = back s l o.dst v H' K')

theorem QP.toQI {P : Program} {rs : List ResultVar} {post : V → List (Nat × Row) → List V → Prop} {s : S} {l : List Nat} {d : Option Tmp} {e : Exit} {s1 : S} (h : QP P rs post e s1) : QI P rs s.n l d (fun s' => ∃ v H' K', post v H' K' ∧ s' = back s l d v H' K') e s1 := by
  cases e with
  | normal => obtain ⟨vs, h1, h2⟩ := h; exact ⟨vs, h1, _, _, _, h2, rfl⟩
  | ret => obtain ⟨vs, h1, h2⟩ := h; exact ⟨vs, h1, _, _, _, h2, rfl⟩
  | _ => exact h.elim
theorem PC.intro {P : Program} {f : FuncId} {fn : Func} {code : Code} {n : Nat} {rs : List ResultVar} {args : List V} {H : List (Nat × Row)} {K : List V} {post : V → List (Nat × Row) → List V → Prop} (hf : Is P f fn code n rs) (hn : args.length ≤ n)
    (h : ∀ w0 out kx, AW ⟨P, w0, out, kx, []⟩ code (QP P rs post) ⟨n, enum 0 args, H, K⟩) : PC P f args H K post := by
  intro c s o fx xs tys l ts hP ho hfx hargs hts hH hK hd
  subst hP hH hK
  refine st_enter l hts hf hn hd (fun g a w hs => ?_) (fun kx => (h c.w0 c.out kx).mono fun e s1 hq => hq.toQI)
  obtain ⟨cs, hfv, hcl, _⟩ := fn_eval hs hfx
  obtain rfl : cs = [] := by cases cs with | nil => rfl | cons => simp at hcl
  exact ⟨_, by rw [exec_call (caps := []) hf ho hfv, List.append_nil], args_eval hs hargs⟩
theorem exec_invoke1 {c : Cx} {o : Oper} {ρ : Operand → Value} {rx : Operand} {name : String} {xs : Array Operand} {ts : Array TypeId} {f : FuncId} {fn : Func} {code : Code} {n : Nat} {rs : List ResultVar} {t : TypeId} {v v' : Value} {w : World} (hf : Is c.P f fn code n rs) (ho : o.op = .call { callee := .invoke rx name, args := xs, argTypes := ts })
    (hfx : ρ rx = .iface t v) (hm : (method (c.P.types.size + Made.depth) t v name).run c.P w = .ok (f, v') w) : (execOp ρ o).run c.P w = .ok (.enter f (v' :: xs.toList.map ρ).toArray) w := by
  have hb : fn.body.isNone = false := by rw [hf.body]; rfl
  have hn := hf.name
  simp only [execOp, ho, resolve, hfx, Sem.run_bind, Sem.run_pure, Result.andThen_ok, invoke]
  have h0 : (#[Value.iface t v] ++ xs.map ρ)[0]? = some (.iface t v) := by simp [Array.getElem?_append_left]
  rw [h0]
  simp only [callMethod, Sem.run_bind, run_program, Result.andThen_ok, hm]
  simp only [callFunc, Sem.run_bind, run_program, Result.andThen_ok, hf.func]
  simp at hn
  have hb' : ¬ fn.body = none := by rw [hf.body]; simp
  simp [hn, hb', hb, ← Array.toList_map]
  rw [List.take_of_length_le (by simp)]
theorem ifc_eval {c : Cx} {s : S} {g : Nat → Nat × Nat} {a : Act} {w : World} (hs : Sim c g s a w) {rx : Operand} {t : TypeId} {v : V} (hx : s.ev rx = some (.ifc t v)) : ∃ x, a.eval rx = .iface t x ∧ VRep w (qt c s.H g) g v x := by
  have h := hs.ev hx
  generalize a.eval rx = u at h
  cases h with | ifc _ _ x h => exact ⟨x, rfl, h⟩
theorem reps_cons' {w : World} {q : Nat → Prop} {g : Nat → Nat × Nat} {v : V} {x : Value} {vs : List V} {xs : List Value} (h : VRep w q g v x) (hs : VReps w q g vs xs) : VReps w q g (v :: vs) (x :: xs) :=
  ⟨by simp [hs.1], fun j u y hu hy => by
    cases j with
    | zero => simp at hu hy; subst hu hy; exact h
    | succ j => exact hs.2 j u y (by simpa using hu) (by simpa using hy)⟩
/-- A method of what the pointer points to. -/
theorem PM.val {P : Program} {t : TypeId} {r k : Nat} {name : String} {f : FuncId} {fn : Func} {code : Code} {n : Nat} {rs : List ResultVar} {args : List V} {H : List (Nat × Row)} {K : List V} {post : V → List (Nat × Row) → List V → Prop} {row : Row} {v : V} (hf : Is P f fn code n rs) (hn : args.length + 1 ≤ n)
    {md : Mode} (hm : ∀ p w, (method (P.types.size + Made.depth) t (.pointer (some p)) name).run P w = (Sem.load md p (fun v => .pure (f, v))).run P w)
    (hr : fnd H r = some row) (hnl : row.nil = false) (hv : row.cells[k]? = some v)
    (h : ∀ w0 out kx, AW ⟨P, w0, out, kx, []⟩ code (QP P rs post) ⟨n, enum 0 (v :: args), H, K⟩) : PM P t (.ref r k) name args H K post := by
  intro c s o rx xs tys l ts hP ho hrx hargs hts hH hK hd
  subst hP hH hK
  refine st_enter l hts hf (by simpa using hn) hd (fun g a w hs => ?_) (fun kx => (h c.w0 c.out kx).mono fun e s1 hq => hq.toQI)
  obtain ⟨x, h1, h2⟩ := ifc_eval hs hrx
  cases h2
  obtain ⟨arr, h3, _, h4⟩ := hs.obj r row hr hnl
  obtain ⟨y, h5, h6⟩ := h4 k v hv
  have hcell : w.cell? ⟨(g r).1, k, none⟩ = some y := (cell_of_row w _ _ _ _ _ h3).trans h5
  refine ⟨_, exec_invoke1 (v' := y) hf ho h1 ?_, reps_cons' h6 (args_eval hs hargs)⟩
  rw [hm]
  simp [Sem.run, hcell]
theorem PM.mono {P : Program} {t : TypeId} {v : V} {name : String} {args : List V} {H : List (Nat × Row)} {K : List V} {post post' : V → List (Nat × Row) → List V → Prop} (h : PM P t v name args H K post) (hp : ∀ v H K, post v H K → post' v H K) : PM P t v name args H K post' :=
  fun c s o rx xs tys l ts h1 h2 h3 h4 h5 h6 h7 h8 g a w hs K' Q' hK => h c s o rx xs tys l ts h1 h2 h3 h4 h5 h6 h7 h8 g a w hs K' Q' fun g' s' a' w' ⟨u, H', K2, k1, k2⟩ k3 => hK g' s' a' w' ⟨u, H', K2, hp _ _ _ k1, k2⟩ k3

section
variable {c : Cx} {s : S} {o : Oper} {Q : Exit → S → Prop} {ops : Array Oper} {rest : List Oper}
/-- Objects and kept values that lie below: none of them is one of the heap's. -/
structure Lw (H : List (Nat × Row)) (K : List V) : Prop where
  obj : ∀ x ∈ H, x.1 < 900 ∧ V.lowL 901 x.2.cells = true
  keep : V.lowL 901 K = true
theorem Lw.all {H : List (Nat × Row)} {K : List V} (h : Lw H K) : ∀ r, 901 ≤ r → H.all (fun x => x.1 != r && !V.hasL r x.2.cells) = true := fun r hr => by
  rw [List.all_eq_true]
  intro x hx
  obtain ⟨h1, h2⟩ := h.obj x hx
  rw [V.lowL_has hr _ h2]
  simp; omega
theorem Lw.has {H : List (Nat × Row)} {K : List V} (h : Lw H K) : ∀ r, 901 ≤ r → V.hasL r K = false := fun r hr => V.lowL_has hr _ h.keep
theorem Lw.fnd {H : List (Nat × Row)} {K : List V} (h : Lw H K) : ∀ r, 900 ≤ r → Go.Proofs.Ythlcginebeapdaa.fnd H r = none := fun r hr => by
  cases hh : Go.Proofs.Ythlcginebeapdaa.fnd H r with
  | none => rfl
  | some row => have := (h.obj _ (fnd_mem hh)).1; simp only at this; omega
/-- The objects as a call wants them: the variable, its slice, all others. -/
theorem Less.hp {s : S} {T : List (Nat × V)} {b r : Row} {H0 : List (Nat × Row)} (hT : LT s T) (h1 : fnd s.H 900 = some b) (h2 : fnd s.H 901 = some r) (h3 : ∀ k row, fnd H0 k = some row → fnd s.H k = some row) : Less ⟨s.n, T, (900, b) :: (901, r) :: H0, s.K⟩ s := by
  refine ⟨rfl, fun i v h => hT.get i v h, fun k row h => ⟨row, ?_, rfl, rfl, rfl, fun j v hv => ⟨v, hv, .refl _⟩⟩, fun j v h => ⟨v, h, .refl _⟩⟩
  simp only [fnd] at h
  split at h
  · rename_i e
    simp only [beq_iff_eq] at e
    subst e
    rw [h1]; exact h
  · split at h
    · rename_i e
      simp only [beq_iff_eq] at e
      subst e
      rw [h2]; exact h
    · exact h3 k row h
theorem LH.of {s : S} {l : List (Nat × Row)} (h : LH s l) : ∀ k row, fnd l k = some row → fnd s.H k = some row := h.get
theorem Lw.low {H : List (Nat × Row)} {K : List V} (h : Lw H K) {T : List (Nat × Row)} (hT : T.all (fun x => decide (900 ≤ x.1)) = true) : ∀ k row, Go.Proofs.Ythlcginebeapdaa.fnd H k = some row → Go.Proofs.Ythlcginebeapdaa.fnd (T ++ H) k = some row := fun k row hk => by
  have hlt : k < 900 := (h.obj _ (fnd_mem hk)).1
  induction T with
  | nil => exact hk
  | cons x T ih =>
    simp only [List.all_cons, Bool.and_eq_true, decide_eq_true_eq] at hT
    obtain ⟨i, y⟩ := x
    simp only at hT
    simp only [List.cons_append, Go.Proofs.Ythlcginebeapdaa.fnd]
    rw [if_neg (by simp; omega)]
    exact ih hT.2
end
end Go.Proofs.Ythlcginebeapdaa
namespace Go.Proofs.Ythlcginebeapdaa
open Go.RowKit
set_option linter.unusedSimpArgs false
set_option linter.unusedVariables false

open Go.Sort (HoldsK grow)
instance : Inhabited Ar := ⟨⟨0, 0, 0, 0⟩⟩
def encAr (a : Ar) : List Value := [.int .i64 a.i, .int .i64 a.o, .int .i64 a.w, .int .i64 a.t]
abbrev arV4 (a : Ar) : List V := (arD a).map V.d
/-- What is known of a sort: it leaves the elements in the order that res tells. -/
structure SrtC (P : Program) (f : FuncId) (cf : Ar → Ar → Int) (res : List Ar → List Ar) : Prop where
  run : ∀ (g : FuncId) (cb : Array Value) (blk cap : Nat) (d : Array Ar) (w : World), (∀ args w, (callFunc g args).run P w = .ok (.enter g args) w) → CmpLays P g cb encAr 4 cf blk 0 d.size w → HoldsK encAr 4 w blk 0 d → blk < w.heap.size → d.size < 4611686018427387904 →
    Calls P f #[.slice (some ⟨blk, 0, none⟩) d.size cap, .func (.func g) #[] cb] w fun e w' => e = .returned (.tuple #[]) ∧ ∃ n os, w' = sortWorldK encAr 4 w blk 0 n (res d.toList).toArray os
  none : ∀ (p : Option Addr) (cap : Nat) (fv : Value) (w : World), Calls P f #[.slice p 0 cap, fv] w fun e w' => e = .returned (.tuple #[]) ∧ w' = w
  len : ∀ l, (res l).length = l.length
theorem enc_get (l : List Ar) (j : Nat) (h : j < l.length * 4) : (l.flatMap arV4)[j]? = some (V.d (.p ((encAr l.toArray[j / 4]!)[j % 4]!))) := by
  induction l generalizing j with
  | nil => simp at h
  | cons a l ih =>
    rw [List.flatMap_cons]
    match j, h with
    | 0, _ => rfl
    | 1, _ => rfl
    | 2, _ => rfl
    | 3, _ => rfl
    | j + 4, h =>
      simp only [List.length_cons] at h
      have h2 := ih j (by omega)
      rw [show (arV4 a ++ l.flatMap arV4)[j + 4]? = (l.flatMap arV4)[j]? from rfl, h2]
      have e1 : (j + 4) / 4 = j / 4 + 1 := by omega
      have e2 : (j + 4) % 4 = j % 4 := by omega
      rw [e1, e2]
      have h3 : j / 4 < l.length := by omega
      simp [h3]
theorem enc_len (l : List Ar) : (l.flatMap arV4).length = l.length * 4 := by
  induction l with
  | nil => rfl
  | cons a l ih => rw [List.flatMap_cons, List.length_append, ih]; simp; omega
section
variable {c : Cx} {s : S} {o : Oper}
theorem st_sort {f gf kf : FuncId} {fn : Func} {code : Code} {nn : Nat} {rs : List ResultVar} {cf : Ar → Ar → Int} {res : List Ar → List Ar} {fx : Operand} {xs : Array Operand} {tys : Array TypeId} {r rk n : Nat} {fl : Bool} {ty : TypeId} {l : List Ar} {rowk : Row} (hf : Is c.P f fn code nn rs) (hS : SrtC c.P f cf res)
    (ho : o.op = .call { callee := .value fx, args := xs, argTypes := tys }) (hfx : s.ev fx = some (.fn f [])) (hargs : xs.toList.map s.ev = [.own r 4 n fl, .fn gf [.ref rk 0]].map some) (hr : fnd s.H r = some ⟨ty, l.flatMap arV4, fl, 4⟩) (hn : l.length = n) (hnb : n ≤ 1000000)
    (hk : fnd s.H rk = some rowk) (hkn : rowk.nil = false) (hkc : rowk.cells[0]? = some (.fn kf [])) (hne : rk ≠ r) (hd : dok s o = true) (eg : ∀ args w, (callFunc gf args).run c.P w = .ok (.enter gf args) w)
    (hcl : ∀ (bk : Nat) (W : World) (a b : Ar), W.cell? ⟨bk, 0, none⟩ = some (.func (.func kf) #[] #[]) → Calls c.P gf #[.agg (encAr a).toArray, .agg (encAr b).toArray, .pointer (some ⟨bk, 0, none⟩)] W fun e w' => e = .returned (.int .i64 (cf a b)) ∧ ∃ q os', w' = grow (W.drewN q) os') :
    Step c o s (fun s' => s' = ({ s with H := (r, ⟨ty, (res l).flatMap arV4, fl, 4⟩) :: s.H } : S).put o.dst (.tup [])) := by
  intro g a w hs K Q hK
  obtain ⟨cs, hfv, hcl0, _⟩ := fn_eval hs hfx
  obtain rfl : cs = [] := by cases cs with | nil => rfl | cons => simp at hcl0
  obtain ⟨hal, hav⟩ := args_eval hs hargs
  obtain ⟨x, y, hxy⟩ : ∃ x y, xs.toList.map a.eval = [x, y] := by
    match h : xs.toList.map a.eval, hal with
    | [x, y], _ => exact ⟨x, y, rfl⟩
  rw [hxy] at hav
  have hx := hav 0 _ x rfl rfl
  have hy := hav 1 _ y rfl rfl
  have hrun : (execOp a.eval o).run c.P w = .ok (.enter f #[x, y]) w := by
    rw [exec_call (caps := []) hf ho hfv, hxy]; rfl
  have hres0 : ∀ w', Sim c g { s with H := (r, ⟨ty, (res l).flatMap arV4, fl, 4⟩) :: s.H } a w' → K (a.put o.dst (.tuple #[])) w' := fun w' h =>
    hK g _ _ w' rfl (h.put o.dst (dok_spec (s := { s with H := (r, ⟨ty, (res l).flatMap arV4, fl, 4⟩) :: s.H }) hd) (.tup [] [] rfl (by intro j u z h1; simp at h1)))
  unfold Oper.wp
  rw [hrun]
  simp only [Oper.upon]
  by_cases hl0 : l = []
  · subst hl0
    have hr0 : res [] = [] := List.length_eq_zero_iff.1 (hS.len [])
    obtain rfl : n = 0 := by simpa using hn.symm
    have hxs : ∃ p cap, x = .slice p 0 cap := by
      cases hx with
      | own => exact ⟨_, _, rfl⟩
      | ownNil => exact ⟨_, _, rfl⟩
    obtain ⟨p, cap, rfl⟩ := hxs
    refine (hS.none p cap y w).mono ?_
    rintro e w' ⟨rfl, rfl⟩
    refine hres0 _ (hs.less ⟨rfl, fun i v h => ⟨v, h, .refl _⟩, fun k row' h => ⟨row', ?_, rfl, rfl, rfl, fun j v hv => ⟨v, hv, .refl _⟩⟩, fun j v h => ⟨v, h, .refl _⟩⟩)
    simp only [fnd] at h
    split at h
    · rename_i e
      simp only [beq_iff_eq] at e
      subst e
      rw [hr0] at h
      rw [hr]; exact h
    · exact h
  · have hpos : 0 < l.length := List.length_pos_iff.2 hl0
    have hfl : fl = false := by
      cases fl with
      | false => rfl
      | true =>
        have h1 := congrArg List.length (hs.nul r _ hr rfl)
        simp only [enc_len, List.length_nil] at h1
        omega
    subst hfl
    obtain ⟨cap, hx1, hcap⟩ : ∃ cap, x = .slice (some ⟨(g r).1, 0, none⟩) n cap ∧ n ≤ (g r).2 := by
      cases hx with
      | own _ _ _ hn' hc' => exact ⟨_, rfl, hn'⟩
    subst hx1
    obtain ⟨bk, rfl, hbk⟩ : ∃ bk : Nat, y = .func (.func gf) #[] #[.pointer (some ⟨bk, 0, none⟩)] ∧ bk = (g rk).1 := by
      cases hy with
      | fn _ _ cs' hlen' h' =>
        match cs', hlen' with
        | [z], _ =>
          have h2 := h' 0 _ z rfl rfl
          cases h2
          exact ⟨_, rfl, rfl⟩
    obtain ⟨arr, ha, hsz, hc⟩ := hs.obj r _ hr rfl
    simp only at ha hsz hc
    have hsz := hsz (by decide)
    have hbne : bk ≠ (g r).1 := fun e => hne (hs.inj rk r _ _ hk hkn hr rfl (hbk ▸ e))
    have hbcell : w.cell? ⟨bk, 0, none⟩ = some (.func (.func kf) #[] #[]) := by
      obtain ⟨ak, h1, _, h3⟩ := hs.obj rk _ hk hkn
      obtain ⟨z, h4, h5⟩ := h3 0 _ hkc
      have hz : z = .func (.func kf) #[] #[] := by
        cases h5 with
        | fn _ _ cs' hlen' h' =>
          match cs', hlen' with
          | [], _ => rfl
      rw [hbk]
      simp only [World.cell?, h1, Option.isSome_none, Bool.false_eq_true, if_false]
      rw [h4, hz]
    have hlt : (g r).1 < w.heap.size := (Array.getElem?_eq_some_iff.1 ha).1
    have hH : Sort.HoldsK encAr 4 w (g r).1 0 l.toArray := by
      intro j hj
      rw [Sort.size_flatK] at hj
      have hj' : j < l.length * 4 := by simpa using hj
      obtain ⟨z, h4, h5⟩ := hc j _ (enc_get l j hj')
      have hz : z = (encAr l.toArray[j / 4]!)[j % 4]! := by
        cases h5 with
        | d _ _ h6 => cases h6; rfl
      refine ⟨?_, ?_⟩
      · rw [Sort.get_flatK _ _ _ _ (by simpa using hj')]
        simp only [World.cell?, ha, Option.isSome_none, Bool.false_eq_true, if_false, Nat.zero_add, id]
        rw [h4, hz]
      · simp [World.frozen?, ha]
    have hcmp : CmpLays c.P gf #[.pointer (some ⟨bk, 0, none⟩)] encAr 4 cf (g r).1 0 l.toArray.size w := by
      intro m os dk hdk a b
      refine hcl bk _ a b ?_
      rw [← hbcell]
      have hbl : bk < w.heap.size := by
        obtain ⟨ak, h1, _, _⟩ := hs.obj rk _ hk hkn
        rw [hbk]
        exact (Array.getElem?_eq_some_iff.1 h1).1
      refine World.cell?_of_block ?_
      unfold sortWorldK Sort.grow Sort.putRowK Sort.putRow Sort.mapBlock Sort.ahead
      simp only
      rw [Array.getElem?_append_left (by simpa using hbl), Array.getElem?_modify, if_neg (fun e => hbne e.symm)]
    have hn2 : n = l.toArray.size := by simp [hn]
    have key := hS.run gf #[.pointer (some ⟨bk, 0, none⟩)] (g r).1 cap l.toArray w eg hcmp hH hlt (by simp; omega)
    rw [← hn2] at key
    refine key.mono ?_
    rintro e w' ⟨rfl, m, os, rfl⟩
    refine hres0 _ ?_
    have hrl := hS.len l
    refine Sim.move (w := Sort.putRowK encAr 4 (Sort.ahead w m) (g r).1 0 (res l).toArray) ?_ ?_
    · refine Sim.setRow hs (row := ⟨ty, l.flatMap arV4, false, 4⟩) (row' := ⟨ty, (res l).flatMap arV4, false, 4⟩) (arr' := Sort.putCells id 0 (Sort.flatK encAr 4 (res l).toArray) arr) hr rfl rfl rfl rfl ?_ ?_ ?_ rfl rfl rfl ?_ ?_
      · simp only [Sort.putRowK, Sort.putRow, Sort.mapBlock, Sort.ahead, Array.getElem?_modify, if_true, ha, Option.map_some, Sort.onCells]
      · intro b hb
        simp only [Sort.putRowK, Sort.putRow, Sort.mapBlock, Sort.ahead, Array.getElem?_modify]
        rw [if_neg (fun e => hb e.symm)]
      · simp [Sort.putRowK, Sort.putRow, Sort.mapBlock, Sort.ahead]
      · intro arr0 ty0 h0
        rw [ha] at h0
        simp only [Option.some.injEq, Obj.cells.injEq, and_true] at h0
        obtain ⟨rfl, _⟩ := h0
        simp [Sort.putCells]
      · intro j v hv
        simp only at hv
        have hj : j < (res l).length * 4 := by
          rw [← enc_len]
          exact (List.getElem?_eq_some_iff.1 hv).1
        rw [enc_get _ _ hj] at hv
        simp only [Option.some.injEq] at hv
        subst hv
        have hja : j < arr.size := by omega
        refine ⟨_, ?_, .d _ _ (.p _)⟩
        simp only [Sort.putCells, Array.getElem?_mapIdx]
        rw [Array.getElem?_eq_getElem hja, Option.map_some, if_pos (by simp; omega), Nat.sub_zero, Sort.get_flatK _ _ _ _ (by simpa using hj)]
        rfl
    · exact ⟨rfl, rfl, rfl, by simp [Sort.grow, sortWorldK], fun k hk => by
        unfold sortWorldK Sort.grow
        simp only
        rw [Array.getElem?_append_left hk]⟩

end
/-- Two calls one behind the other: the second works on what the first has made. -/
def Fn2 (P : Program) (f1 f2 : FuncId) (args : List V) (post : V → Prop) : Prop := ∀ (w : World) (out : Nat → Prop) (g : Nat → Nat × Nat) (xs : List Value), (∀ b, out b → b < w.heap.size) → VReps w (fun b => ¬ out b) g args xs →
  Calls P f1 xs.toArray w fun e w1 => ∃ x1, e = .returned x1 ∧ Below w.heap.size w w1 ∧ Calls P f2 #[x1] w1 fun e w2 => ∃ v x, e = .returned x ∧ post v ∧ v.pure ∧ VRep w2 (fun b => ¬ out b) g v x ∧ Below w.heap.size w w2
theorem Fn2.intro {P : Program} {f1 f2 : FuncId} {fn : Func} {code : Code} {n : Nat} {rs : List ResultVar} {args : List V} {post1 : V → List (Nat × Row) → Prop} {post : V → Prop} (h1 : FnO P f1 args post1) (hf : Is P f2 fn code n rs) (hn0 : 1 ≤ n)
    (h : ∀ v H, post1 v H → ∀ w0 out, AW ⟨P, w0, out, [], []⟩ code (QF P rs post) ⟨n, [(0, v)], H, []⟩) : Fn2 P f1 f2 args post := by
  intro w out g xs hout hx
  refine (h1 w out g xs hout hx).mono ?_
  rintro e w1 ⟨v, x1, g', H, rfl, hp, hcl, hO, hv, hb⟩
  refine ⟨x1, rfl, hb, ?_⟩
  refine calls_of_wp hf.func hf.body ?_
  have hs : Sim ⟨P, w, out, [], []⟩ g' ⟨n, [(0, v)], H, []⟩ { tmps := #[x1] ++ Array.replicate (fn.ntmps - 1) undef, defers := [] } w1 := by
    refine ⟨?_, rfl, ?_, hO.nul, hO.obj, by simp, hO.inj, hO.new, hout, hb⟩
    · simp [hf.ntmps]; omega
    · intro i u hu
      simp only [fnd] at hu
      split at hu
      · rename_i e
        simp only [beq_iff_eq] at e
        subst e
        simp only [Option.some.injEq] at hu
        subst hu
        exact ⟨x1, by rw [Array.getElem?_append_left (by simp)]; rfl, hv⟩
      · cases hu
  refine wp_mono (h v H hp w out g' _ w1 hs) fun e a' w' hq => ?_
  obtain ⟨g2, s', h2, h3⟩ := hq
  have fin : (∃ vs, resL P s' rs vs ∧ post (tupOf vs) ∧ (tupOf vs).pure) → a'.defers = [] ∧ ∃ v, (results fn a'.tmps).run P w' = .ok v w' ∧ ∃ v_1 x, Ending.returned v = .returned x ∧ post v_1 ∧ v_1.pure ∧ VRep w' (fun b => ¬ out b) g v_1 x ∧ Below w.heap.size w w' := by
    rintro ⟨vs, k1, k2, k3⟩
    obtain ⟨x, k4, k5⟩ := run_results (c := ⟨P, w, out, [], []⟩) hf.results h3 k1
    exact ⟨h3.defers, x, k5, _, x, rfl, k2, k3, (k4.repure k3).mono Cells.rfl (fun b hb _ => hb.1) (fun r _ => rfl), h3.below⟩
  cases e with
  | normal => exact fin h2
  | ret => exact fin h2
  | _ => exact h2.elim
theorem Fn2.mono {P : Program} {f1 f2 : FuncId} {args : List V} {post post' : V → Prop} (h : Fn2 P f1 f2 args post) (hp : ∀ v, post v → post' v) : Fn2 P f1 f2 args post' := fun w out g xs h1 h2 =>
  (h w out g xs h1 h2).mono fun e w1 ⟨x1, e1, b1, k⟩ => ⟨x1, e1, b1, k.mono fun e w2 ⟨v, x, a1, a2, a3⟩ => ⟨v, x, a1, hp v a2, a3⟩⟩
section
variable {c : Cx} {s : S} {Q : Exit → S → Prop} {L : List Oper} {need : Nat → Bool} {l : List (Nat × Bool)} {i j : Nat} {o1 o2 : Oper}
theorem AD2.call2 {f1 f2 : FuncId} {fn1 fn2 : Func} {code1 code2 : Code} {n1 n2 : Nat} {rs1 rs2 : List ResultVar} {args : List V} {post : V → Prop} {fx1 fx2 : Operand} {xs1 : Array Operand} {ts1 ts2 : Array TypeId} {d1 : Nat}
    (hi1 : L[i]? = some o1) (hg1 : o1.guard = none) (hi2 : L[j]? = some o2) (hg2 : o2.guard = none) (hfn : Fn2 c.P f1 f2 args post) (hf1 : Is c.P f1 fn1 code1 n1 rs1) (hf2 : Is c.P f2 fn2 code2 n2 rs2)
    (ho1 : o1.op = .call { callee := .value fx1, args := xs1, argTypes := ts1 }) (hfx1 : s.ev fx1 = some (.fn f1 [])) (hargs : xs1.toList.map s.ev = args.map some) (hd1 : o1.dst = some d1) (hdk : d1 < s.n)
    (ho2 : o2.op = .call { callee := .value fx2, args := #[.tmp d1], argTypes := ts2 }) (hfx2 : (s.put (some d1) .junk).ev fx2 = some (.fn f2 [])) (hd : dok s o2 = true)
    (hN : ∀ v, post v → v.pure → AD2 c L.toArray Q need l ((s.put (some d1) .junk).put o2.dst v)) : AD2 c L.toArray Q need ((i, false) :: (j, false) :: l) s := by
  intro W g a w hs hbW
  have hfx1' : a.eval fx1 = .func (.func f1) #[] ([] : List Value).toArray := by
    have h := hs.ev hfx1
    generalize a.eval fx1 = u at h
    cases h with
    | fn _ _ cs hl _ =>
      obtain rfl : cs = [] := by cases cs with | nil => rfl | cons => simp at hl
      rfl
  have hx : VReps w (fun b => ¬ ¬ qt c s.H g b) g args (xs1.toList.map a.eval) := by
    refine ⟨by simpa using (congrArg List.length hargs).symm, fun j u y hu hy => ?_⟩
    have h1 := congrArg (fun l => l[j]?) hargs
    simp only [List.getElem?_map, hu, Option.map_some] at h1 hy
    cases h2 : xs1.toList[j]? with
    | none => rw [h2] at h1; cases h1
    | some p =>
      rw [h2] at h1 hy
      simp only [Option.map_some, Option.some.injEq] at h1 hy
      subst hy
      exact (hs.ev h1).mono Cells.rfl (fun b hb _ => not_not_intro hb) (fun r _ => rfl)
  have hlow : ∀ b, ¬ qt c s.H g b → b < w.heap.size := by
    intro b hb
    rcases Classical.em (c.out b) with h | h
    · exact Nat.lt_of_lt_of_le (hs.low b h) hs.below.size
    · rcases Classical.em (∃ r row, fnd s.H r = some row ∧ row.nil = false ∧ (g r).1 = b) with ⟨r, row, h1, h2, rfl⟩ | h'
      · obtain ⟨arr, h3, _⟩ := hs.obj r row h1 h2
        exact (Array.getElem?_eq_some_iff.1 h3).1
      · exact absurd ⟨h, fun r row h1 h2 h3 => h' ⟨r, row, h1, h2, h3⟩⟩ hb
  refine wpOp_of (by simpa using hi1) hg1 ?_
  unfold Oper.wp
  rw [exec_call (caps := []) hf1 ho1 hfx1']
  simp only [Oper.upon, List.append_nil]
  refine (hfn w (fun b => ¬ qt c s.H g b) g _ hlow hx).mono ?_
  rintro e w1 ⟨x1, rfl, hb1, hcall⟩
  refine ⟨fun _ => hbW.trans (hb1.mono hbW.size), ?_⟩
  have hs1 : Sim c g (s.put (some d1) .junk) (a.put o1.dst x1) w1 := by
    rw [hd1]
    exact (hs.move hb1).put (some d1) (fun k hk => by cases hk; exact hdk) (.junk _)
  have hfx2' : (a.put o1.dst x1).eval fx2 = .func (.func f2) #[] ([] : List Value).toArray := by
    have h := hs1.ev hfx2
    generalize (a.put o1.dst x1).eval fx2 = u at h
    cases h with
    | fn _ _ cs hl _ =>
      obtain rfl : cs = [] := by cases cs with | nil => rfl | cons => simp at hl
      rfl
  have hx1 : (a.put o1.dst x1).eval (.tmp d1) = x1 := by
    have hsz := hs.size
    rw [hd1]
    simp [Act.put, Act.eval, hsz, hdk]
  refine wpOp_of (by simpa using hi2) hg2 ?_
  unfold Oper.wp
  rw [exec_call (caps := []) hf2 ho2 hfx2']
  simp only [Oper.upon, List.append_nil, List.map_cons, List.map_nil]
  rw [hx1]
  refine hcall.mono ?_
  rintro e w2 ⟨v, x, rfl, hp, hpu, hv, hb2⟩
  refine ⟨fun _ => hbW.trans (hb2.mono hbW.size), ?_⟩
  refine hN v hp hpu W g _ w2 ?_ (hbW.trans (hb2.mono hbW.size))
  have hs2 : Sim c g (s.put (some d1) .junk) (a.put o1.dst x1) w2 := by
    rw [hd1]
    exact (hs.move hb2).put (some d1) (fun k hk => by cases hk; exact hdk) (.junk _)
  exact hs2.put o2.dst (dok_spec (s := s.put (some d1) .junk) hd) (hv.mono Cells.rfl (fun b hb _ => Classical.not_not.1 hb) (fun _ _ => rfl))
end
end Go.Proofs.Ythlcginebeapdaa
namespace Go.Proofs.Ythlcginebeapdaa
open Go.RowKit
open Go.Sort (grow)
set_option linter.unusedSimpArgs false
set_option linter.unusedVariables false

def c3 (x y : Int) : Int := if x < y then -1 else if y < x then 1 else 0
def lx4 (a b : Int × Int × Int × Int) : Int := if a.1 < b.1 then -1 else if b.1 < a.1 then 1 else if a.2.1 < b.2.1 then -1 else if b.2.1 < a.2.1 then 1 else if a.2.2.1 < b.2.2.1 then -1 else if b.2.2.1 < a.2.2.1 then 1 else c3 a.2.2.2 b.2.2.2
def cfR (a b : Ar) : Int := lx4 (a.i, a.o, a.t, a.w) (b.i, b.o, b.t, b.w)
theorem cfR_lt (a b : Ar) : decide (cfR a b < 0) = ahd a b := by
  rw [Bool.eq_iff_iff, decide_eq_true_iff, ahd_iff]
  unfold cfR lx4 c3
  simp only
  repeat' split
  all_goals omega
set_option maxHeartbeats 1000000 in
theorem cmp_at (x y : Int) (w : World) : Calls Try.prog 87 #[.int .i64 x, .int .i64 y] w fun e w' => e = .returned (.int .i64 (c3 x y)) ∧ w' = w := by
  have nan : ∀ (x : Int) (w : World), Calls Try.prog 97 #[.int .i64 x] w fun e w' => e = .returned (.bool false) ∧ w' = w := by
    intro x w
    go_enter Try.func97, Try.ntmps97
    go_wp2
    go_ret
    exact ⟨by simp, rfl⟩
  unfold c3
  by_cases h1 : x < y
  · rw [if_pos h1]
    go_enter Try.func87, Try.ntmps87
    go_wp2_with (go_at_call 97; refine (nan _ _).mono ?_; rintro e w1 ⟨rfl, rfl⟩)
    go_ret
    exact ⟨rfl, rfl⟩
  · rw [if_neg h1]
    by_cases h2 : y < x
    · rw [if_pos h2]
      go_enter Try.func87, Try.ntmps87
      go_wp2_with (go_at_call 97; refine (nan _ _).mono ?_; rintro e w1 ⟨rfl, rfl⟩)
      go_ret
      exact ⟨rfl, rfl⟩
    · rw [if_neg h2]
      go_enter Try.func87, Try.ntmps87
      go_wp2_with (go_at_call 97; refine (nan _ _).mono ?_; rintro e w1 ⟨rfl, rfl⟩)
      go_ret
      exact ⟨rfl, rfl⟩
def lexL : List Int → List Int → Int
  | x :: xs, y :: ys => if c3 x y = 0 then lexL xs ys else c3 x y
  | _, _ => 0
theorem c3_zero {x y : Int} (h : c3 x y = 0) : x = y := by
  unfold c3 at h
  split at h
  · omega
  · split at h <;> omega
theorem c3_self (x : Int) : c3 x x = 0 := by simp [c3]
theorem lexL_self : ∀ l : List Int, lexL l l = 0
  | [] => rfl
  | x :: l => by rw [lexL, if_pos (c3_self x), lexL_self l]
theorem lexL_at : ∀ {xs ys : List Int} {k : Nat} {x y : Int}, xs.take k = ys.take k → xs[k]? = some x → ys[k]? = some y → c3 x y ≠ 0 → lexL xs ys = c3 x y
  | a :: xs, b :: ys, 0, x, y, _, hx, hy, h => by
    simp at hx hy
    subst hx hy
    rw [lexL, if_neg h]
  | a :: xs, b :: ys, k + 1, x, y, ht, hx, hy, h => by
    simp only [List.take_succ_cons, List.cons.injEq] at ht
    obtain ⟨rfl, ht⟩ := ht
    rw [lexL, if_pos (c3_self a)]
    exact lexL_at ht (by simpa using hx) (by simpa using hy) h
  | [], _, k, x, y, _, hx, _, _ => by simp at hx
  | _ :: _, [], k, x, y, _, _, hy, _ => by simp at hy
def keyL (k : Int × Int × Int × Int) : List Int := [k.1, k.2.1, k.2.2.1, k.2.2.2]
theorem lexL_key (a b : Int × Int × Int × Int) : lexL (keyL a) (keyL b) = lx4 a b := by
  unfold keyL lx4 lexL lexL lexL lexL lexL c3
  repeat' split
  all_goals first | rfl | omega | (exfalso; simp_all; done) | simp_all
def Row4 (w : World) (b : Nat) (l : List Int) : Prop := ∀ (k : Nat) (x : Int), l[k]? = some x → w.cell? ⟨b, k, none⟩ = some (.int .i64 x)

set_option maxHeartbeats 1000000 in
theorem cmps_at (n : Nat) (bx by' : Nat) (xs ys : List Int) (w : World) (hn1 : xs.length = n) (hn2 : ys.length = n) (hn : n ≤ 4) (hx : Row4 w bx xs) (hy : Row4 w by' ys) :
    Calls Try.prog 71 #[.slice (some ⟨bx, 0, none⟩) n n, .slice (some ⟨by', 0, none⟩) n n] w fun e w' => e = .returned (.int .i64 (lexL xs ys)) ∧ w' = w := by
  have HX := Lib.hid hx
  have HY := Lib.hid hy
  have H1 := Lib.hid hn1
  have H2 := Lib.hid hn2
  clear hx hy hn1 hn2
  go_enter Try.func71, Try.ntmps71
  go_wp2_with fail
  go_loopw [11] (fun i wr => ∃ k : Nat, k ≤ n ∧ i = .int .i64 k ∧ xs.take k = ys.take k ∧ wr = w) (fun i _ => n - (intOf i).toNat)
  case atStart => exact ⟨0, Nat.zero_le _, rfl, rfl, rfl⟩
  case round =>
    obtain ⟨k, hk, rfl, ht, rfl⟩ := hrel
    have HT := Lib.hid ht
    clear ht
    by_cases hlt : k < n
    · obtain ⟨x, hx⟩ : ∃ x, xs[k]? = some x := ⟨_, List.getElem?_eq_getElem (by rw [H1.out]; exact hlt)⟩
      obtain ⟨y, hy⟩ : ∃ y, ys[k]? = some y := ⟨_, List.getElem?_eq_getElem (by rw [H2.out]; exact hlt)⟩
      have cx := HX.out k x hx
      have cy := HY.out k y hy
      have Hx := Lib.hid hx
      have Hy := Lib.hid hy
      clear hx hy
      have hcon := fun W => cmp_at x y W
      have hz := fun h : c3 x y = 0 => c3_zero h
      have hne := fun h : c3 x y ≠ 0 => lexL_at HT.out Hx.out Hy.out h
      have Hz := Lib.hid hz
      have Hne := Lib.hid hne
      clear hz hne
      generalize c3 x y = z at hcon Hz Hne
      by_cases hz0 : z = 0
      · have HE := Lib.hid (Hz.out hz0)
        clear Hz Hne
        subst hz0
        go_wp2_with (go_at_call 87; refine (hcon _).mono ?_; rintro e w1 ⟨rfl, rfl⟩)
        go_roundw
        case rel =>
          refine ⟨k + 1, by omega, by go_num, ?_, by first | rfl | trivial⟩
          rw [List.take_add_one, List.take_add_one, Hx.out, Hy.out, HT.out, HE.out]
        case measure => simp [intOf]; omega
      · go_wp2_with (go_at_call 87; refine (hcon _).mono ?_; rintro e w1 ⟨rfl, rfl⟩)
        go_ret
        exact ⟨by rw [Hne.out hz0]; rfl, rfl⟩
    · go_wp2_with fail
      go_ret
      have e : xs = ys := by
        have h := HT.out
        rwa [List.take_of_length_le (by rw [H1.out]; omega), List.take_of_length_le (by rw [H2.out]; omega)] at h
      exact ⟨by rw [e, lexL_self]; rfl, rfl⟩

abbrev arcV (a : Ar) : Value := .agg #[.int .i64 a.i, .int .i64 a.o, .int .i64 a.w, .int .i64 a.t]
abbrev keyV (k : Int × Int × Int × Int) : Value := .agg #[.int .i64 k.1, .int .i64 k.2.1, .int .i64 k.2.2.1, .int .i64 k.2.2.2]
/-- A key: what it computes, and that it lays two blocks. -/
def KeyAt (P : Program) (f : FuncId) (key : Ar → Int × Int × Int × Int) : Prop := ∀ (a : Ar) (w : World), Calls P f #[arcV a] w fun e w' => e = .returned (keyV (key a)) ∧ ∃ o1 o2, w' = (w.alloc o1).alloc o2
theorem heap_alloc2 (w : World) (o1 o2 : Obj) : ((w.alloc o1).alloc o2).heap[w.heap.size + 1]? = some o2 := by
  show ((w.heap.push o1).push o2)[w.heap.size + 1]? = some o2
  rw [Array.getElem?_push, if_pos (by simp)]
theorem readKey_at : KeyAt Try.prog 62 (fun a => (a.i, a.o, a.t, a.w)) := by
  intro a w
  go_enter Try.func62, Try.ntmps62
  go_wp2
  (try simp only [Exit.inBlock, Exit.then]); refine bodyPost_ret (results_cell_row rfl _ _ (w.heap.size + 1) 118 #[.int .i64 a.i, .int .i64 a.o, .int .i64 a.t, .int .i64 a.w] (0, 0) _ rfl (heap_alloc2 _ _ _) Try.underlying118 rfl (by kernel_rfl)) rfl ?_
  exact ⟨rfl, _, _, rfl⟩
end Go.Proofs.Ythlcginebeapdaa
namespace Go.Proofs.Ythlcginebeapdaa
open Go.Shelf Go.RowKit
open Go.Sort (HoldsK grow SWO)
set_option linter.unusedSimpArgs false
set_option linter.unusedVariables false
def sortArc_ren : Go.Shelf.Ren := ⟨fun | 6 => 60 | 15 => 69 | 14 => 68 | 28 => 85 | 29 => 86 | 20 => 77 | 21 => 78 | 22 => 79 | 23 => 80 | 24 => 81 | 25 => 82 | 26 => 83 | 27 => 84 | 46 => 92 | 47 => 93 | 48 => 94 | 49 => 95 | 50 => 96 | 57 => 106 | n => n, fun | 22 => 48 | 24 => 54 | 25 => 106 | 3 => 3 | 39 => 111 | 0 => 0 | 53 => 63 | 55 => 134 | 4 => 4 | 46 => 127 | 45 => 126 | 50 => 80 | 5 => 5 | 9 => 9 | 66 => 139 | 70 => 143 | 76 => 152 | 77 => 153 | n => n, fun | n => n⟩
theorem sortArc : Go.Proofs.SlLaysF0.n6 Try.prog sortArc_ren := {
  mixed := by kernel_rfl
  f6 := ⟨Try.f60.name, by decide, Try.func60.trans (congrArg some (by kernel_rfl))⟩
  f14 := ⟨Try.f68.name, by decide, Try.func68.trans (congrArg some (by kernel_rfl))⟩
  f15 := Try.func69.trans (congrArg some (by kernel_rfl))
  f20 := ⟨Try.f77.name, by decide, Try.func77.trans (congrArg some (by kernel_rfl))⟩
  f21 := ⟨Try.f78.name, by decide, Try.func78.trans (congrArg some (by kernel_rfl))⟩
  f22 := ⟨Try.f79.name, by decide, Try.func79.trans (congrArg some (by kernel_rfl))⟩
  f23 := ⟨Try.f80.name, by decide, Try.func80.trans (congrArg some (by kernel_rfl))⟩
  f24 := ⟨Try.f81.name, by decide, Try.func81.trans (congrArg some (by kernel_rfl))⟩
  f25 := ⟨Try.f82.name, by decide, Try.func82.trans (congrArg some (by kernel_rfl))⟩
  f26 := ⟨Try.f83.name, by decide, Try.func83.trans (congrArg some (by kernel_rfl))⟩
  f27 := ⟨Try.f84.name, by decide, Try.func84.trans (congrArg some (by kernel_rfl))⟩
  f28 := Try.func85.trans (congrArg some (by kernel_rfl))
  f29 := Try.func86.trans (congrArg some (by kernel_rfl))
  f46 := ⟨Try.f92.name, by decide, Try.func92.trans (congrArg some (by kernel_rfl))⟩
  f47 := Try.func93.trans (congrArg some (by kernel_rfl))
  f48 := Try.func94.trans (congrArg some (by kernel_rfl))
  f49 := ⟨Try.f95.name, by decide, Try.func95.trans (congrArg some (by kernel_rfl))⟩
  f50 := ⟨Try.f96.name, by decide, Try.func96.trans (congrArg some (by kernel_rfl))⟩
  f57 := ⟨Try.f106.name, by decide, Try.func106.trans (congrArg some (by kernel_rfl))⟩
  t0 := Try.underlying0
  a0 := Try.isAgg0
  z0 := Try.sizeOf0
  v0 := Try.zeroValue0
  t3 := Try.underlying3
  a3 := Try.isAgg3
  z3 := Try.sizeOf3
  v3 := Try.zeroValue3
  t4 := Try.underlying4
  a4 := Try.isAgg4
  z4 := Try.sizeOf4
  v4 := Try.zeroValue4
  t5 := Try.underlying5
  a5 := Try.isAgg5
  z5 := Try.sizeOf5
  v5 := Try.zeroValue5
  t9 := Try.underlying9
  a9 := Try.isAgg9
  z9 := Try.sizeOf9
  v9 := Try.zeroValue9
  t22 := Try.underlying48
  a22 := Try.isAgg48
  z22 := Try.sizeOf48
  v22 := Try.zeroValue48
  t25 := Try.underlying106
  a25 := Try.isAgg106
  z25 := Try.sizeOf106
  v25 := Try.zeroValue106
  t39 := Try.underlying111
  a39 := Try.isAgg111
  z39 := Try.sizeOf111
  v39 := Try.zeroValue111
  t45 := Try.underlying126
  a45 := Try.isAgg126
  z45 := Try.sizeOf126
  v45 := Try.zeroValue126
  t46 := Try.underlying127
  a46 := Try.isAgg127
  z46 := Try.sizeOf127
  v46 := Try.zeroValue127
  t50 := Try.underlying80
  a50 := Try.isAgg80
  z50 := Try.sizeOf80
  v50 := Try.zeroValue80
  t53 := Try.underlying63
  a53 := Try.isAgg63
  z53 := Try.sizeOf63
  v53 := Try.zeroValue63
  t55 := Try.underlying134
  a55 := Try.isAgg134
  z55 := Try.sizeOf134
  v55 := Try.zeroValue134
  t66 := Try.underlying139
  a66 := Try.isAgg139
  z66 := Try.sizeOf139
  v66 := Try.zeroValue139
  t70 := Try.underlying143
  a70 := Try.isAgg143
  z70 := Try.sizeOf143
  v70 := Try.zeroValue143
  t76 := Try.underlying152
  a76 := Try.isAgg152
  z76 := Try.sizeOf152
  v76 := Try.zeroValue152
  t77 := Try.underlying153
  a77 := Try.isAgg153
  z77 := Try.sizeOf153
  v77 := Try.zeroValue153 }

theorem enc1 (x : Ar) : ∀ v ∈ encAr x, v.oneCell' = true := by
  intro v hv
  simp only [encAr, List.mem_cons, List.not_mem_nil, or_false] at hv
  rcases hv with rfl | rfl | rfl | rfl <;> rfl
theorem swo_of {lt : Ar → Ar → Bool} (hT : Tot lt) (h2 : ∀ a b x, lt a b = true → lt b x = true → lt a x = true) : SWO lt := ⟨hT.irr, fun a b x => h2 a b x, fun a b x => hT.tr a b x⟩
theorem ltR : ltOf cfR = ahd := by funext a b; exact cfR_lt a b
theorem sort_eq {lt : Ar → Ar → Bool} (hT : Tot lt) {l r : List Ar} (hs : Sd lt r) (hp : r.Perm l) : l.mergeSort (fun x y => !lt y x) = r := by
  refine sd_uniq hT ?_ hs ((List.mergeSort_perm _ _).trans hp.symm)
  have h := List.pairwise_mergeSort (le := fun x y => !lt y x) (fun a b x h1 h2 => by
    simp only [Bool.not_eq_true'] at h1 h2 ⊢
    exact hT.tr _ _ _ h2 h1) (fun a b => by
    cases h : lt b a with
    | false => simp
    | true => simp [hT.asy _ _ h]) l
  exact h.imp fun h => by simpa using h
theorem srtR : SrtC Try.prog 60 cfR inO := by
  refine ⟨fun g cb blk cap d w eg hcmp hH hblk hsz => ?_, fun p cap fv w => ?_, inO_len⟩
  · have h := AnyQ.slices_SortFunc_total sortArc 4 Try.isAgg54 Try.sizeOf54 encAr (fun _ => rfl) enc1 cfR (by rw [ltR]; exact swo_of tot_ahd fun _ _ _ => ahd_trans1) g cb blk 0 cap d w eg hcmp hH hblk hsz (by rw [ltR]; exact fun _ _ => ahd_total)
    refine Calls.mono h ?_
    rintro e w' ⟨rfl, n, os, rfl⟩
    refine ⟨rfl, n, os, ?_⟩
    rw [ltR, sort_eq tot_ahd (inO_sd _) (inO_perm _)]
  · exact AnyF.slices_SortFunc_none sortArc p cap fv w
end Go.Proofs.Ythlcginebeapdaa
namespace Go.Proofs.Ythlcginebeapdaa
open Go.RowKit
set_option linter.unusedSimpArgs false
set_option linter.unusedVariables false
theorem Below.cellTo {w w' : World} (hb : Below w.heap.size w w') {b o : Nat} {v : Value} (h : w.cell? ⟨b, o, none⟩ = some v) : w'.cell? ⟨b, o, none⟩ = some v := (hb.cell (p := ⟨b, o, none⟩) (blt h)).trans h
theorem cell_al {w : World} {b o : Nat} {v : Value} (h : w.cell? ⟨b, o, none⟩ = some v) (x : Obj) : (w.alloc x).cell? ⟨b, o, none⟩ = some v := Below.cellTo (Below.al (Below.refl _ w) x) h
end Go.Proofs.Ythlcginebeapdaa
