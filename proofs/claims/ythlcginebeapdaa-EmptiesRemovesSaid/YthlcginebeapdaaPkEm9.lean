/- Part 9 of what the law EmptiesRemoves rests on. -/
import Derived.Test.YthlcginebeapdaaPkEm1
import Derived.Test.YthlcginebeapdaaPkEm2
import Derived.Test.YthlcginebeapdaaPkEm3
import Derived.Test.YthlcginebeapdaaPkEm4
import Derived.Test.YthlcginebeapdaaPkEm5
import Derived.Test.YthlcginebeapdaaPkEm6
import Derived.Test.YthlcginebeapdaaPkEm7
import Derived.Test.YthlcginebeapdaaPkEm8
namespace Go.Proofs.Ythlcginebeapdaa
open Go.RowKit
set_option linter.unusedSimpArgs false
set_option linter.unusedVariables false
set_option maxRecDepth 100000

def FM : Fam (List Nat) := ⟨3, 1, 8, fun _ => [], fun r => r.map encN⟩
theorem fm_rows : ∀ x : List Nat, ∀ l ∈ FM.it x, l.length = FM.sz := by
 intro x l hl
 obtain ⟨_, _, rfl⟩ := List.mem_map.1 hl
 rfl
theorem fm_it_set (r : List Nat) (i v : Nat) : FM.it (r.set i v) = (FM.it r).set i (encN v) := by simp [FM, List.map_set]
theorem fm_get {r : List Nat} {i v : Nat} (h : r[i]? = some v) : (FM.it r)[i]? = some (encN v) := by simp [FM, h]
theorem fm_len (r : List Nat) : (FM.it r).length = r.length := by simp [FM]
theorem fm_emp (r : List Nat) {n : Nat} (h : r.length = n) (hn : 0 < n) : (FM.it r).isEmpty = false := by
 cases r with
 | nil => simp at h; omega
 | cons => rfl
theorem fm_own (k : Nat) (r : List Nat) {n : Nat} (h : r.length = n) (hn : 0 < n) : FM.ownV k r = .own k 1 n false := by
 unfold Fam.ownV
 rw [fm_len, h, fm_emp r h hn]; rfl
theorem fm_row (r : List Nat) {n : Nat} (h : r.length = n) (hn : 0 < n) : FM.row r = ⟨3, r.map V.n, false, 1⟩ := by
 unfold Fam.row
 rw [fm_emp r h hn]
 have : ((FM.it r).flatten.map V.d) = r.map V.n := by
  simp only [FM]
  clear h
  induction r with
  | nil => rfl
  | cons x r ih => simp only [List.map_cons, List.flatten_cons, List.map_append, ih]; rfl
 rw [this]; rfl
abbrev rowE (r : List Nat) : List D := [.sl 1 8 (r.map encN)]
theorem am_IsEmpE (y : Ar) (b : Bool) (hb : emp y = b) : Fn Try.prog 42 [.agg ((arD y).map V.d)] (fun v => v = .b b) := by
 subst hb
 obtain ⟨yi, yo, yw, yt⟩ := y
 refine Fn.intro (n := 11) ⟨Try.func42, rfl, rfl, rfl, rfl⟩ (by simp [V.pure, V.has, V.hasL]) (by simp) fun w0 out => ?_
 by_cases h1 : yi = 0
 ·by_cases h2 : yo = 0
  ·skip
   refine AW.seq ?_
   refine AW.region ?_
   refine AL.sm rfl (sm_box 1 rfl rfl rfl rfl rfl) ?_
   refine AL.rp rfl rfl (rp_assign rfl rfl) ?_
   refine AL.nil ?_
   try simp only [thenS, S.put, S.newObj, setL, V.cs, List.length_cons, List.length_nil, List.take_succ_cons, List.take_zero, List.drop_succ_cons, List.drop_zero, List.drop_nil, List.nil_append, List.cons_append, List.append_nil, Nat.zero_add, Nat.reduceAdd, List.map_cons, List.map_nil, List.set_cons_zero, List.set_cons_succ, enum]
   refine AW.seq ?_
   refine AW.region ?_
   refine AL.rp rfl rfl (rp_field_ref Try.underlying54 rfl rfl rfl inf3 (by decide) rfl) ?_
   refine AL.rd rfl rfl (rd_load_ref Try.underlying3 rfl rfl rfl rfl rfl rfl) ?_
   (refine AL.rp rfl rfl (rp_eqlT rfl rfl rfl (by first | assumption | omega | (dsimp only; omega))) ?_)
   refine AL.rp rfl rfl (rp_move rfl rfl) ?_
   refine AL.rpy rfl rfl rfl (rp_field_ref Try.underlying54 rfl rfl rfl inf3 (by decide) rfl) ?_
   refine AL.rdy rfl rfl rfl (rd_load_ref Try.underlying3 rfl rfl rfl rfl rfl rfl) ?_
   (refine AL.rpy rfl rfl rfl (rp_eqlT rfl rfl rfl (by first | assumption | omega | (dsimp only; omega))) ?_)
   refine AL.rp rfl rfl (rp_pick rfl rfl rfl) ?_
   refine AL.rp rfl rfl (rp_assign rfl rfl) ?_
   refine AL.nil ?_
   try simp only [thenS, S.put, List.nil_append, List.cons_append]
   refine AW.ret ?_
   exact ⟨[_], ⟨rfl, trivial⟩, by simp [tupOf, emp, h1, h2], by simp [tupOf, V.pure, V.has]⟩
  ·skip
   refine AW.seq ?_
   refine AW.region ?_
   refine AL.sm rfl (sm_box 1 rfl rfl rfl rfl rfl) ?_
   refine AL.rp rfl rfl (rp_assign rfl rfl) ?_
   refine AL.nil ?_
   try simp only [thenS, S.put, S.newObj, setL, V.cs, List.length_cons, List.length_nil, List.take_succ_cons, List.take_zero, List.drop_succ_cons, List.drop_zero, List.drop_nil, List.nil_append, List.cons_append, List.append_nil, Nat.zero_add, Nat.reduceAdd, List.map_cons, List.map_nil, List.set_cons_zero, List.set_cons_succ, enum]
   refine AW.seq ?_
   refine AW.region ?_
   refine AL.rp rfl rfl (rp_field_ref Try.underlying54 rfl rfl rfl inf3 (by decide) rfl) ?_
   refine AL.rd rfl rfl (rd_load_ref Try.underlying3 rfl rfl rfl rfl rfl rfl) ?_
   (refine AL.rp rfl rfl (rp_eqlT rfl rfl rfl (by first | assumption | omega | (dsimp only; omega))) ?_)
   refine AL.rp rfl rfl (rp_move rfl rfl) ?_
   refine AL.rpy rfl rfl rfl (rp_field_ref Try.underlying54 rfl rfl rfl inf3 (by decide) rfl) ?_
   refine AL.rdy rfl rfl rfl (rd_load_ref Try.underlying3 rfl rfl rfl rfl rfl rfl) ?_
   (refine AL.rpy rfl rfl rfl (rp_eqlF rfl rfl rfl (by first | assumption | omega | (dsimp only; omega))) ?_)
   refine AL.rp rfl rfl (rp_pick rfl rfl rfl) ?_
   refine AL.rp rfl rfl (rp_assign rfl rfl) ?_
   refine AL.nil ?_
   try simp only [thenS, S.put, List.nil_append, List.cons_append]
   refine AW.ret ?_
   exact ⟨[_], ⟨rfl, trivial⟩, by simp [tupOf, emp, h1, h2], by simp [tupOf, V.pure, V.has]⟩
 ·skip
  refine AW.seq ?_
  refine AW.region ?_
  refine AL.sm rfl (sm_box 1 rfl rfl rfl rfl rfl) ?_
  refine AL.rp rfl rfl (rp_assign rfl rfl) ?_
  refine AL.nil ?_
  try simp only [thenS, S.put, S.newObj, setL, V.cs, List.length_cons, List.length_nil, List.take_succ_cons, List.take_zero, List.drop_succ_cons, List.drop_zero, List.drop_nil, List.nil_append, List.cons_append, List.append_nil, Nat.zero_add, Nat.reduceAdd, List.map_cons, List.map_nil, List.set_cons_zero, List.set_cons_succ, enum]
  refine AW.seq ?_
  refine AW.region ?_
  refine AL.rp rfl rfl (rp_field_ref Try.underlying54 rfl rfl rfl inf3 (by decide) rfl) ?_
  refine AL.rd rfl rfl (rd_load_ref Try.underlying3 rfl rfl rfl rfl rfl rfl) ?_
  (refine AL.rp rfl rfl (rp_eqlF rfl rfl rfl (by first | assumption | omega | (dsimp only; omega))) ?_)
  refine AL.rp rfl rfl (rp_move rfl rfl) ?_
  refine AL.noV rfl rfl rfl rfl ?_
  refine AL.noV rfl rfl rfl rfl ?_
  refine AL.noV rfl rfl rfl rfl ?_
  refine AL.rp rfl rfl (rp_pick rfl rfl rfl) ?_
  refine AL.rp rfl rfl (rp_assign rfl rfl) ?_
  refine AL.nil ?_
  try simp only [thenS, S.put, List.nil_append, List.cons_append]
  refine AW.ret ?_
  exact ⟨[_], ⟨rfl, trivial⟩, by simp [tupOf, emp, h1], by simp [tupOf, V.pure, V.has]⟩

/-- The costs in the midst of a round. -/
def mix (sts : List St) (k q0 p0 q p : Nat) : Nat := if q < q0 ∨ q = q0 ∧ p < p0 then fw sts (k + 1) q p else fw sts k q p
def mt (d : Nat → Nat → Nat) (n : Nat) : List (List Nat) := bl (fun q => bl (d q) n) n
theorem mt_get {d : Nat → Nat → Nat} {n q : Nat} (h : q < n) : (mt d n)[q]? = some (bl (d q) n) := bl_get h
theorem mt_len (d : Nat → Nat → Nat) (n : Nat) : (mt d n).length = n := bl_len _ _
theorem mt_congr {d d' : Nat → Nat → Nat} {n : Nat} (h : ∀ q p, q < n → p < n → d q p = d' q p) : mt d n = mt d' n := bl_congr fun q hq => bl_congr fun p hp => h q p hq hp
theorem mix_start (sts : List St) (k : Nat) (n : Nat) : mt (mix sts k 0 0) n = mt (fw sts k) n := mt_congr fun q p _ _ => by unfold mix; rw [if_neg (by omega)]
theorem mix_row (sts : List St) (k q0 n : Nat) : mt (mix sts k q0 n) n = mt (mix sts k (q0 + 1) 0) n := mt_congr fun q p _ hp => by
 unfold mix
 by_cases h : q < q0 ∨ q = q0 ∧ p < n
 ·rw [if_pos h, if_pos (by omega)]
 ·rw [if_neg h, if_neg (by omega)]
theorem mix_end (sts : List St) (k n : Nat) : mt (mix sts k n 0) n = mt (fw sts (k + 1)) n := mt_congr fun q p hq _ => by unfold mix; rw [if_pos (by omega)]
theorem mix_same {sts : List St} {k q0 p0 n : Nat} (h : fw sts (k + 1) q0 p0 = fw sts k q0 p0) : mt (mix sts k q0 (p0 + 1)) n = mt (mix sts k q0 p0) n := mt_congr fun q p _ _ => by
 unfold mix
 by_cases e : q = q0 ∧ p = p0
 ·obtain ⟨rfl, rfl⟩ := e
  rw [if_pos (by omega), if_neg (by omega), h]
 ·by_cases h2 : q < q0 ∨ q = q0 ∧ p < p0
  ·rw [if_pos (by omega), if_pos h2]
  ·rw [if_neg (by omega), if_neg h2]
theorem mix_set {sts : List St} {k q0 p0 n : Nat} (hq : q0 < n) (hp : p0 < n) : (mt (mix sts k q0 p0) n).set q0 ((bl (mix sts k q0 p0 q0) n).set p0 (fw sts (k + 1) q0 p0)) = mt (mix sts k q0 (p0 + 1)) n := by
 have e1 : ∀ q p, ¬ (q = q0 ∧ p = p0) → mix sts k q0 p0 q p = mix sts k q0 (p0 + 1) q p := fun q p e => by
  unfold mix
  by_cases h2 : q < q0 ∨ q = q0 ∧ p < p0
  ·rw [if_pos h2, if_pos (by omega)]
  ·rw [if_neg h2, if_neg (by omega)]
 refine bl_set hq ?_ fun q _ hne => bl_congr fun p _ => e1 q p fun h => hne h.1
 refine (bl_set hp ?_ fun p _ hne => e1 q0 p fun h => hne h.2).symm
 unfold mix
 rw [if_pos (by omega)]

theorem mn_skip {q n i : Nat} {l : List Ar} {a : Ar} (ha : l[i]? = some a) (h : emp a = true → ∀ p : Nat, a.t = (p : Int) → p < n → ¬ a.w < ((mnA p (fwI q p) (l.take i) : Nat) : Int)) : bl (fun r => mnA r (fwI q r) (l.take (i + 1))) n = bl (fun r => mnA r (fwI q r) (l.take i)) n :=
 bl_congr fun r hr => by
  rw [mnA_snoc _ _ ha]
  unfold mnS
  rw [if_neg]
  rintro ⟨h1, h2, h3⟩
  exact h h1 r h2 hr h3
theorem mn_set {q n i p w : Nat} {l : List Ar} {a : Ar} (ha : l[i]? = some a) (he : emp a = true) (hp : a.t = (p : Int)) (hpn : p < n) (hw : a.w = (w : Int)) (hlt : w < mnA p (fwI q p) (l.take i)) : (bl (fun r => mnA r (fwI q r) (l.take i)) n).set p w = bl (fun r => mnA r (fwI q r) (l.take (i + 1))) n := by
 refine bl_set hpn ?_ fun r _ hne => ?_
 ·rw [mnA_snoc _ _ ha]
  unfold mnS
  rw [if_pos ⟨he, hp, by omega⟩]; omega
 ·rw [mnA_snoc _ _ ha]
  unfold mnS
  rw [if_neg]
  rintro ⟨_, h2, _⟩
  omega
set_option maxHeartbeats 4000000 in
theorem am_hopR (m : Mach) (h0 : machE m = 0) : Fn Try.prog 41 [mV m] (fun v => v = .d (.sl 1 24 ((mt (hop m.states) m.states.length).map rowE))) := by
 have hz := machE_zero h0
 clear h0
 have hbig := big_eq
 obtain ⟨st, sts⟩ := m
 simp only at hz ⊢
 obtain ⟨n, hn⟩ : ∃ n, sts.length = n := ⟨_, rfl⟩
 obtain ⟨hz1, hz2, hz3, hz4⟩ := hz
 rw [hn] at hz1 hz3 hz4 ⊢
 have hw : ∀ q, ∀ a ∈ stA sts q, 0 ≤ a.w := by
  intro q a ha
  by_cases hql : q < n
  ·obtain ⟨x, hx⟩ := get_lt hn hql
   rw [stA_of hx] at ha
   have h3 := (hz4 x (List.mem_of_getElem? hx)).2 a ha
   simp only [arOk, decide_eq_true_eq] at h3
   omega
  ·rw [stA, List.getD_eq_getElem?_getD, List.getElem?_eq_none (by omega)] at ha
   simp at ha
 have hfin : mt (fw sts n) n = mt (hop sts) n := mt_congr fun q p _ hp => fw_hop hw hn hp
 rw [← hfin]
 have hok := fun k => fw_ok hw k
 have hrow := fw_row hw
 have hcol := fw_col hw
 clear hfin hw
 refine Fn.intro (n := 163) ⟨Try.func41, rfl, rfl, rfl, rfl⟩ (by simp [V.pure, V.has, V.hasL]) (by simp) fun w0 out => ?_
 refine AW.seq ?_
 refine AW.region ?_
 refine AL.sm rfl (sm_box 1 rfl rfl rfl rfl rfl) ?_
 refine AL.rp rfl rfl (rp_assign rfl rfl) ?_
 refine AL.nil ?_
 try simp only [thenS, S.put, S.newObj, setL, V.cs, List.length_cons, List.length_nil, List.take_succ_cons, List.take_zero, List.drop_succ_cons, List.drop_zero, List.drop_nil, List.nil_append, List.cons_append, List.append_nil, Nat.zero_add, Nat.reduceAdd, List.map_cons, List.map_nil, List.set_cons_zero, List.set_cons_succ, enum]
 refine AW.seq ?_
 refine AW.region ?_
 refine AL.rp rfl rfl (rp_field_ref Try.underlying24 rfl rfl rfl inf22 (by decide) rfl) ?_
 refine AL.rd rfl rfl (rd_load_ref Try.underlying22 rfl rfl rfl rfl rfl rfl) ?_
 refine AL.rp rfl rfl (rp_len_map Try.underlying22 rfl rfl (by assumption)) ?_
 refine AL.rp rfl rfl (rp_assign rfl rfl) ?_
 refine AL.nil ?_
 try simp only [thenS, S.put, List.nil_append, List.cons_append]
 refine AW.seq ?_
 refine AW.region ?_
 refine AL.rp rfl rfl (rp_assign rfl rfl) ?_
 refine AL.nil ?_
 try simp only [thenS, S.put, List.nil_append, List.cons_append]
 refine AW.seq ?_
 refine AW.seq ?_
 refine AW.adopt 4 901 1 82 rfl (by simp [S.clean, V.has, V.hasL, V.cs, setL]) ?_
 refine AW.region ?_
 refine AL.rp rfl rfl (rp_assign rfl rfl) ?_
 refine AL.nil ?_
 try simp only [thenS, S.put, List.nil_append, List.cons_append]
 refine AW.block ?_
 refine AW.loop (fun s' => ∃ (q : Nat) (L : List (List Nat)), q ≤ n ∧ L.length = q ∧ L = bl (fun q => bl (fw sts 0 q) n) q ∧ s' = ⟨163, [(1, .ref 1 0), (3, .i n), (4, .own 901 1 q (decide (q = 0))), (5, .i q)], [(1, ⟨24, [.i st, .d (stsD sts)], false, 0⟩), (901, ⟨82, FM.cells 1000 L, decide (q = 0), 1⟩)] ++ FM.objs 1000 L, []⟩) (fun s' => n - s'.nat 5) ⟨_, ?_, 0, [], by omega, rfl, rfl, rfl⟩ ?_
 ·exact (Less.of rfl (by repeat (first | exact trivial | refine ⟨⟨_, rfl, Wk.refl _⟩, ?_⟩ | refine ⟨⟨_, rfl, Wk.nil _ _⟩, ?_⟩ | refine ⟨⟨_, rfl, Wk.junk _⟩, ?_⟩)) (by repeat (first | exact trivial | refine ⟨rfl, ?_⟩ | exact LH.fam | refine LH.skip (by decide) ?_)) rfl)
 rintro s' ⟨q, L, hq, hLl, hL, rfl⟩
 by_cases hlt : q < n
 ·have hn0 : 0 < n := by omega
  obtain ⟨x, hx⟩ := get_lt hn hlt
  have hxa : stA sts q = x.arcs := stA_of hx
  have hxl := arcs_le (List.mem_of_getElem? hx)
  have hxm := (hz4 x (List.mem_of_getElem? hx)).2
  obtain ⟨la, hla⟩ : ∃ la, x.arcs.length = la := ⟨_, rfl⟩
  have hcl : (FM.cells 1000 L).length = q * 1 := by rw [Fam.cells_len (m := 0) (fun _ => rfl), hLl]
  refine AW.seq ?_
  refine AW.seq ?_
  refine AW.region ?_
  refine AL.rp rfl rfl (rp_move rfl rfl) ?_
  refine AL.rp rfl rfl (rp_move rfl rfl) ?_
  (refine AL.rp rfl rfl (rp_lssT rfl rfl rfl (by first | assumption | omega | (dsimp only; omega))) ?_)
  refine AL.nil ?_
  try simp only [thenS, S.put, List.nil_append, List.cons_append]
  refine AW.condT rfl ?_
  refine AW.skip ?_
  try simp only [thenS, List.nil_append, List.cons_append]
  refine AW.seq ?_
  refine AW.block ?_
  refine AW.seq ?_
  refine AW.region ?_
  refine AL.rp rfl rfl (rp_move rfl rfl) ?_
  refine AL.sm rfl (sm_make_map 22 V.i (0) Try.underlying82 inf3 rfl rfl rfl rfl rfl (by omega) (by decide) (by first | rfl | (simp only [S.clean, S.put, S.newObj, List.all_cons, objs_clean_low, Nat.reduceLT]; simp [S.forget, V.has, V.hasL, junkIf, setL, V.cs, hasL_i, hasL_b, hasL_s, hasL_n, hasL_rep, hasL_flat, hasL_append, cells_hasL_low, has_ownV, hasL_frep, nb1, nb2, nb3, nb4, -List.map_set]; try omega)) rfl) ?_
  refine AL.rp rfl rfl (rp_assign rfl rfl) ?_
  refine AL.nil ?_
  try simp only [thenS, S.put, S.newObj, setL, V.cs, List.length_cons, List.length_nil, List.take_succ_cons, List.take_zero, List.drop_succ_cons, List.drop_zero, List.drop_nil, List.nil_append, List.cons_append, List.append_nil, Nat.zero_add, Nat.reduceAdd, List.map_cons, List.map_nil, List.set_cons_zero, List.set_cons_succ]
  refine AW.seq ?_
  refine AW.seq ?_
  refine AW.region ?_
  refine AL.rp rfl rfl (rp_assign rfl rfl) ?_
  refine AL.nil ?_
  try simp only [thenS, S.put, List.nil_append, List.cons_append]
  refine AW.block ?_
  refine AW.loop (fun s' => ∃ (k : Nat) (R : List Nat), k ≤ n ∧ R.length = n ∧ (∀ j, j < k → R[j]? = some big) ∧ s' = ⟨163, [(1, .ref 1 0), (3, .i n), (4, .own 901 1 q (decide (q = 0))), (5, .i q), (6, .own 22 1 n false), (7, .i k)], [(1, ⟨24, [.i st, .d (stsD sts)], false, 0⟩), (22, ⟨3, R.map V.n, false, 1⟩), (901, ⟨82, FM.cells 1000 L, decide (q = 0), 1⟩)] ++ FM.objs 1000 L, []⟩) (fun s' => n - s'.nat 7) ⟨_, ?_, 0, List.replicate n 0, by omega, by simp, (fun j h => absurd h (by omega)), rfl⟩ ?_
  ·have hz : (List.replicate n (0 : Int)).map V.i = (List.replicate n 0).map V.n := by simp
   rw [hz]
   exact (Less.of rfl (by repeat (first | exact trivial | refine ⟨⟨_, rfl, Wk.refl _⟩, ?_⟩ | refine ⟨⟨_, rfl, Wk.nil _ _⟩, ?_⟩ | refine ⟨⟨_, rfl, Wk.junk _⟩, ?_⟩)) (by repeat (first | exact trivial | refine ⟨rfl, ?_⟩ | exact LH.fam | refine LH.skip (by decide) ?_)) rfl)
  rintro s' ⟨k, R, hk, hRl, hR, rfl⟩
  by_cases hltk : k < n
  ·have hkR : k < R.length := by omega
   refine AW.seq ?_
   refine AW.seq ?_
   refine AW.region ?_
   refine AL.rp rfl rfl (rp_move rfl rfl) ?_
   refine AL.rp rfl rfl (rp_move rfl rfl) ?_
   (refine AL.rp rfl rfl (rp_lssT rfl rfl rfl (by first | assumption | omega | (dsimp only; omega))) ?_)
   refine AL.nil ?_
   try simp only [thenS, S.put, List.nil_append, List.cons_append]
   refine AW.condT rfl ?_
   refine AW.skip ?_
   try simp only [thenS, List.nil_append, List.cons_append]
   refine AW.seq ?_
   refine AW.block ?_
   refine AW.region ?_
   refine AL.rp rfl rfl (rp_move rfl rfl) ?_
   refine AL.rp rfl rfl (rp_move rfl rfl) ?_
   refine AL.rp rfl rfl (rp_index_own Try.underlying82 inf3 rfl rfl rfl rfl (by first | assumption | omega)) ?_
   refine AL.st rfl (st_store_map2 (v := big) inf3 rfl rfl rfl rfl rfl rfl rfl rfl (by first | assumption | omega)) ?_
   refine AL.nil ?_
   try simp only [thenS, S.put, S.newObj, setL, V.cs, List.length_cons, List.length_nil, List.take_succ_cons, List.take_zero, List.drop_succ_cons, List.drop_zero, List.drop_nil, List.nil_append, List.cons_append, List.append_nil, Nat.zero_add, Nat.reduceAdd, List.map_cons, List.map_nil, List.set_cons_zero, List.set_cons_succ]
   refine AW.region ?_
   refine AL.rp rfl rfl (rp_move rfl rfl) ?_
   refine AL.rp rfl rfl (rp_add rfl rfl rfl (by first | omega | (dsimp only; omega))) ?_
   refine AL.rp rfl rfl (rp_assign rfl rfl) ?_
   refine AL.nil ?_
   try simp only [thenS, S.put, List.nil_append, List.cons_append]
   refine ⟨_, ?_, ⟨k + 1, R.set k big, by omega, by simpa using hRl, fun j hj => ?_, rfl⟩, ?_⟩
   ·exact (Less.of rfl (by repeat (first | exact trivial | refine ⟨⟨_, rfl, Wk.refl _⟩, ?_⟩ | refine ⟨⟨_, rfl, Wk.nil _ _⟩, ?_⟩ | refine ⟨⟨_, rfl, Wk.junk _⟩, ?_⟩)) (by repeat (first | exact trivial | refine ⟨rfl, ?_⟩ | exact LH.fam | refine LH.skip (by decide) ?_)) rfl)
   ·rw [List.getElem?_set]
    by_cases e : k = j
    ·subst e; simp [hkR]
    ·rw [if_neg e]; exact hR j (by omega)
   ·simp [S.nat, fnd]; omega
  have hRq : R.set q 0 = bl (fun r => mnA r (fwI q r) (x.arcs.take 0)) n := by
   refine List.ext_getElem? fun j => ?_
   by_cases hj : j < n
   ·rw [bl_get hj, List.getElem?_set]
    by_cases e : q = j
    ·subst e; rw [if_pos rfl, if_pos (by omega)]; simp [fwI, mnA]
    ·rw [if_neg e, hR j (by omega)]; simp [fwI, mnA, Ne.symm e]
   ·rw [List.getElem?_eq_none (by simp; omega), List.getElem?_eq_none (by simp [bl]; omega)]
  have hqR : q < R.length := by omega
  refine AW.seq ?_
  refine AW.seq ?_
  refine AW.region ?_
  refine AL.rp rfl rfl (rp_move rfl rfl) ?_
  refine AL.rp rfl rfl (rp_move rfl rfl) ?_
  (refine AL.rp rfl rfl (rp_lssF rfl rfl rfl (by first | assumption | omega | (dsimp only; omega))) ?_)
  refine AL.nil ?_
  try simp only [thenS, S.put, List.nil_append, List.cons_append]
  refine AW.condF rfl ?_
  refine AW.exit ?_
  try simp only [thenS, inBlockS, ↓reduceIte, Nat.reduceEqDiff, List.nil_append, List.cons_append]
  refine AW.seq ?_
  refine AW.region ?_
  refine AL.rp rfl rfl (rp_move rfl rfl) ?_
  refine AL.rp rfl rfl (rp_move rfl rfl) ?_
  refine AL.rp rfl rfl (rp_index_own Try.underlying82 inf3 rfl rfl rfl rfl (by first | assumption | omega)) ?_
  refine AL.st rfl (st_store_map2 (v := 0) inf3 rfl rfl rfl rfl rfl rfl rfl rfl (by first | assumption | omega)) ?_
  refine AL.nil ?_
  try simp only [thenS, S.put, S.newObj, setL, V.cs, List.length_cons, List.length_nil, List.take_succ_cons, List.take_zero, List.drop_succ_cons, List.drop_zero, List.drop_nil, List.nil_append, List.cons_append, List.append_nil, Nat.zero_add, Nat.reduceAdd, List.map_cons, List.map_nil, List.set_cons_zero, List.set_cons_succ]
  refine AW.seq ?_
  refine AW.region ?_
  refine AL.rp rfl rfl (rp_field_ref Try.underlying24 rfl rfl rfl inf22 (by decide) rfl) ?_
  refine AL.rd rfl rfl (rd_load_ref Try.underlying22 rfl rfl rfl rfl rfl rfl) ?_
  refine AL.rp rfl rfl (rp_move rfl rfl) ?_
  refine AL.rp rfl rfl (rp_index_map Try.underlying22 inf50 rfl rfl rfl rfl (by assumption)) ?_
  refine AL.rp rfl rfl (rp_field_ad Try.underlying50 rfl rfl rfl inf48 (by decide) rfl) ?_
  refine AL.rd rfl rfl (rd_load_ad Try.underlying48 rfl rfl rfl rfl) ?_
  refine AL.rp rfl rfl (rp_assign rfl rfl) ?_
  refine AL.nil ?_
  try simp only [thenS, S.put, List.nil_append, List.cons_append]
  refine AW.seq ?_
  refine AW.seq ?_
  rw [hRq]
  refine AW.region ?_
  refine AL.rp rfl rfl (rp_assign rfl rfl) ?_
  refine AL.nil ?_
  try simp only [thenS, S.put, List.nil_append, List.cons_append]
  refine AW.block ?_
  refine AW.loop (fun s' => ∃ (i : Nat) (R : List Nat), i ≤ la ∧ R = bl (fun r => mnA r (fwI q r) (x.arcs.take i)) n ∧ s' = ⟨163, [(1, .ref 1 0), (3, .i n), (4, .own 901 1 q (decide (q = 0))), (5, .i q), (6, .own 22 1 n false), (8, .d (arsD x.arcs)), (9, .i i)], [(1, ⟨24, [.i st, .d (stsD sts)], false, 0⟩), (22, ⟨3, R.map V.n, false, 1⟩), (901, ⟨82, FM.cells 1000 L, decide (q = 0), 1⟩)] ++ FM.objs 1000 L, []⟩) (fun s' => la - s'.nat 9) ⟨_, ?_, 0, _, by omega, rfl, rfl⟩ ?_
  ·exact (Less.of rfl (by repeat (first | exact trivial | refine ⟨⟨_, rfl, Wk.refl _⟩, ?_⟩ | refine ⟨⟨_, rfl, Wk.nil _ _⟩, ?_⟩ | refine ⟨⟨_, rfl, Wk.junk _⟩, ?_⟩)) (by repeat (first | exact trivial | refine ⟨rfl, ?_⟩ | exact LH.fam | refine LH.skip (by decide) ?_)) rfl)
  clear hRq hqR hR hRl
  rintro s' ⟨i, R, hi, hR, rfl⟩
  have hRl : R.length = n := by rw [hR, bl_len]
  by_cases hlti : i < la
  ·obtain ⟨a, ha⟩ := get_lt hla hlti
   have h3 := hxm a (List.mem_of_getElem? ha)
   simp only [arOk, decide_eq_true_eq] at h3
   obtain ⟨e, he⟩ : ∃ e, emp a = e := ⟨_, rfl⟩
   have hem := am_IsEmpE a e he
   obtain ⟨ai, ao, aw, at'⟩ := a
   simp only at h3
   obtain ⟨v, rfl⟩ := Int.eq_ofNat_of_zero_le h3.2.2.1.1
   obtain ⟨p, rfl⟩ := Int.eq_ofNat_of_zero_le h3.2.2.2.1
   have hpn : p < n := by omega
   have hpR : R[p]? = some (mnA p (fwI q p) (x.arcs.take i)) := by rw [hR]; exact bl_get hpn
   obtain ⟨y, hy⟩ : ∃ y, mnA p (fwI q p) (x.arcs.take i) = y := ⟨_, rfl⟩
   rw [hy] at hpR
   cases e with
   | false =>
    have hs := mn_skip (q := q) (n := n) ha (fun h => by rw [he] at h; cases h)
    refine AW.seq ?_
    refine AW.seq ?_
    refine AW.region ?_
    refine AL.rp rfl rfl (rp_move rfl rfl) ?_
    refine AL.rp rfl rfl (rp_move rfl rfl) ?_
    refine AL.rp rfl rfl (rp_len_map Try.underlying48 rfl rfl (by assumption)) ?_
    (refine AL.rp rfl rfl (rp_lssT rfl rfl rfl (by first | assumption | omega | (dsimp only; omega))) ?_)
    refine AL.nil ?_
    try simp only [thenS, S.put, List.nil_append, List.cons_append]
    refine AW.condT rfl ?_
    refine AW.skip ?_
    try simp only [thenS, List.nil_append, List.cons_append]
    refine AW.seq ?_
    refine AW.block ?_
    refine AW.seq ?_
    refine AW.drawT (N := ?N1) (l := #[false, false, false, false, false, false, false, false, false, false, false, false, false, false, false, false, false, false, false, false, false]) 21 (by kernel_rfl) rfl rfl ?_ ?_
    rotate_left
    refine AN.rp (i := 0) (l' := #[true, false, false, false, false, false, false, false, false, false, false, false, false, false, false, false, false, false, false, false, false]) rfl rfl rfl (fun _ _ h => h) (by kernel_rfl) rfl (rp_move rfl rfl) ?_
    refine AN.rp (i := 1) (l' := #[true, true, false, false, false, false, false, false, false, false, false, false, false, false, false, false, false, false, false, false, false]) rfl rfl rfl (fun _ _ h => h) (by kernel_rfl) rfl (rp_move rfl rfl) ?_
    refine AN.rp (i := 2) (l' := #[true, true, true, false, false, false, false, false, false, false, false, false, false, false, false, false, false, false, false, false, false]) rfl rfl rfl (fun _ _ h => h) (by kernel_rfl) rfl (rp_index_map Try.underlying48 inf54 rfl rfl rfl rfl (by assumption)) ?_
    refine AN.br1 (i := 3) (by kernel_rfl) ?_
    refine BR.mk (l' := #[true, true, true, true, false, false, false, false, false, false, false, false, false, false, false, false, false, false, false, false, false]) rfl rfl rfl ?_
    refine ST.rd rfl (rd_loads_ad Try.underlying54 rfl inf54 rfl rfl rfl rfl) ?_
    refine AN.br1 (i := 4) (by kernel_rfl) ?_
    refine BR.mk (l' := #[true, true, true, true, true, false, false, false, false, false, false, false, false, false, false, false, false, false, false, false, false]) rfl rfl rfl ?_
    refine ST.call (post := ?pc1) (sm_call (args := [_]) ?hc1 ⟨Try.func42, rfl, rfl, rfl, rfl⟩ rfl rfl rfl rfl) ?_
    case hc1 => exact hem
    rintro _ rfl -
    try dsimp only
    refine AN.rp (i := 5) (l' := #[true, true, true, true, true, true, false, false, false, false, false, false, false, false, false, false, false, false, false, false, false]) rfl rfl rfl (fun _ _ h => h) (by kernel_rfl) rfl (rp_move rfl rfl) ?_
    refine AN.skip (i := 6) (l' := #[true, true, true, true, true, true, true, false, false, false, false, false, false, false, false, false, false, false, false, false, false]) rfl rfl (by first | exact .inl ⟨_, rfl, rfl⟩ | exact .inr ⟨_, rfl, rfl⟩) rfl (fun _ _ h => h) (by kernel_rfl) rfl ?_
    refine AN.skip (i := 7) (l' := #[true, true, true, true, true, true, true, true, false, false, false, false, false, false, false, false, false, false, false, false, false]) rfl rfl (by first | exact .inl ⟨_, rfl, rfl⟩ | exact .inr ⟨_, rfl, rfl⟩) rfl (fun _ _ h => h) (by kernel_rfl) rfl ?_
    refine AN.skip (i := 8) (l' := #[true, true, true, true, true, true, true, true, true, false, false, false, false, false, false, false, false, false, false, false, false]) rfl rfl (by first | exact .inl ⟨_, rfl, rfl⟩ | exact .inr ⟨_, rfl, rfl⟩) rfl (fun _ _ h => h) (by kernel_rfl) rfl ?_
    refine AN.skip (i := 9) (l' := #[true, true, true, true, true, true, true, true, true, true, false, false, false, false, false, false, false, false, false, false, false]) rfl rfl (by first | exact .inl ⟨_, rfl, rfl⟩ | exact .inr ⟨_, rfl, rfl⟩) rfl (fun _ _ h => h) (by kernel_rfl) rfl ?_
    refine AN.skip (i := 10) (l' := #[true, true, true, true, true, true, true, true, true, true, true, false, false, false, false, false, false, false, false, false, false]) rfl rfl (by first | exact .inl ⟨_, rfl, rfl⟩ | exact .inr ⟨_, rfl, rfl⟩) rfl (fun _ _ h => h) (by kernel_rfl) rfl ?_
    refine AN.skip (i := 11) (l' := #[true, true, true, true, true, true, true, true, true, true, true, true, false, false, false, false, false, false, false, false, false]) rfl rfl (by first | exact .inl ⟨_, rfl, rfl⟩ | exact .inr ⟨_, rfl, rfl⟩) rfl (fun _ _ h => h) (by kernel_rfl) rfl ?_
    refine AN.skip (i := 12) (l' := #[true, true, true, true, true, true, true, true, true, true, true, true, true, false, false, false, false, false, false, false, false]) rfl rfl (by first | exact .inl ⟨_, rfl, rfl⟩ | exact .inr ⟨_, rfl, rfl⟩) rfl (fun _ _ h => h) (by kernel_rfl) rfl ?_
    refine AN.skip (i := 13) (l' := #[true, true, true, true, true, true, true, true, true, true, true, true, true, true, false, false, false, false, false, false, false]) rfl rfl (by first | exact .inl ⟨_, rfl, rfl⟩ | exact .inr ⟨_, rfl, rfl⟩) rfl (fun _ _ h => h) (by kernel_rfl) rfl ?_
    refine AN.skip (i := 14) (l' := #[true, true, true, true, true, true, true, true, true, true, true, true, true, true, true, false, false, false, false, false, false]) rfl rfl (by first | exact .inl ⟨_, rfl, rfl⟩ | exact .inr ⟨_, rfl, rfl⟩) rfl (fun _ _ h => h) (by kernel_rfl) rfl ?_
    refine AN.skip (i := 15) (l' := #[true, true, true, true, true, true, true, true, true, true, true, true, true, true, true, true, false, false, false, false, false]) rfl rfl (by first | exact .inl ⟨_, rfl, rfl⟩ | exact .inr ⟨_, rfl, rfl⟩) rfl (fun _ _ h => h) (by kernel_rfl) rfl ?_
    refine AN.skip (i := 16) (l' := #[true, true, true, true, true, true, true, true, true, true, true, true, true, true, true, true, true, false, false, false, false]) rfl rfl (by first | exact .inl ⟨_, rfl, rfl⟩ | exact .inr ⟨_, rfl, rfl⟩) rfl (fun _ _ h => h) (by kernel_rfl) rfl ?_
    refine AN.skip (i := 17) (l' := #[true, true, true, true, true, true, true, true, true, true, true, true, true, true, true, true, true, true, false, false, false]) rfl rfl (by first | exact .inl ⟨_, rfl, rfl⟩ | exact .inr ⟨_, rfl, rfl⟩) rfl (fun _ _ h => h) (by kernel_rfl) rfl ?_
    refine AN.skip (i := 18) (l' := #[true, true, true, true, true, true, true, true, true, true, true, true, true, true, true, true, true, true, true, false, false]) rfl rfl (by first | exact .inl ⟨_, rfl, rfl⟩ | exact .inr ⟨_, rfl, rfl⟩) rfl (fun _ _ h => h) (by kernel_rfl) rfl ?_
    refine AN.skip (i := 19) (l' := #[true, true, true, true, true, true, true, true, true, true, true, true, true, true, true, true, true, true, true, true, false]) rfl rfl (by first | exact .inl ⟨_, rfl, rfl⟩ | exact .inr ⟨_, rfl, rfl⟩) rfl (fun _ _ h => h) (by kernel_rfl) rfl ?_
    refine AN.rp (i := 20) (l' := #[true, true, true, true, true, true, true, true, true, true, true, true, true, true, true, true, true, true, true, true, true]) rfl rfl rfl (fun _ _ h => h) (by kernel_rfl) rfl (rp_pick rfl rfl rfl) ?_
    refine AN.nil (by kernel_rfl) ?_
    show Less _ _
    exact Less.refl _
    (try simp only [S.put, S.newObj, setL, V.cs, List.length_cons, List.length_nil, List.take_succ_cons, List.take_zero, List.drop_succ_cons, List.drop_zero, List.drop_nil, List.nil_append, List.cons_append, List.append_nil, Nat.zero_add, Nat.reduceAdd, List.map_cons, List.map_nil, List.set_cons_zero, List.set_cons_succ])
    try simp only [S.dd, ddL, List.contains_cons, List.contains_nil, Nat.reduceBEq, beq_self_eq_true, Bool.or_false, Bool.or_true, Bool.false_or, Bool.true_or, Bool.or_self, if_true, if_false, Bool.false_eq_true, ↓reduceIte]
    try simp only [thenS, S.put, S.newObj, setL, V.cs, List.length_cons, List.length_nil, List.take_succ_cons, List.take_zero, List.drop_succ_cons, List.drop_zero, List.drop_nil, List.nil_append, List.cons_append, List.append_nil, Nat.zero_add, Nat.reduceAdd, List.map_cons, List.map_nil, List.set_cons_zero, List.set_cons_succ]
    refine AW.condF rfl ?_
    refine AW.skip ?_
    try simp only [thenS, List.nil_append, List.cons_append]
    refine AW.region ?_
    refine AL.rp rfl rfl (rp_move rfl rfl) ?_
    refine AL.rp rfl rfl (rp_add rfl rfl rfl (by first | omega | (dsimp only; omega))) ?_
    refine AL.rp rfl rfl (rp_assign rfl rfl) ?_
    refine AL.nil ?_
    try simp only [thenS, S.put, List.nil_append, List.cons_append]
    refine ⟨_, ?_, ⟨i + 1, R, by omega, by rw [hs, hR], rfl⟩, ?_⟩
    ·exact (Less.of rfl (by repeat (first | exact trivial | refine ⟨⟨_, rfl, Wk.refl _⟩, ?_⟩ | refine ⟨⟨_, rfl, Wk.nil _ _⟩, ?_⟩ | refine ⟨⟨_, rfl, Wk.junk _⟩, ?_⟩)) (by repeat (first | exact trivial | refine ⟨rfl, ?_⟩ | exact LH.fam | refine LH.skip (by decide) ?_)) rfl)
    ·simp [S.nat, fnd]; omega
   | true =>
    by_cases hv : v < y
    ·have hs := mn_set (q := q) (n := n) ha he rfl hpn rfl (by rw [hy]; exact hv)
     rw [← hR] at hs
     have hpR2 : p < R.length := by omega
     refine AW.seq ?_
     refine AW.seq ?_
     refine AW.region ?_
     refine AL.rp rfl rfl (rp_move rfl rfl) ?_
     refine AL.rp rfl rfl (rp_move rfl rfl) ?_
     refine AL.rp rfl rfl (rp_len_map Try.underlying48 rfl rfl (by assumption)) ?_
     (refine AL.rp rfl rfl (rp_lssT rfl rfl rfl (by first | assumption | omega | (dsimp only; omega))) ?_)
     refine AL.nil ?_
     try simp only [thenS, S.put, List.nil_append, List.cons_append]
     refine AW.condT rfl ?_
     refine AW.skip ?_
     try simp only [thenS, List.nil_append, List.cons_append]
     refine AW.seq ?_
     refine AW.block ?_
     refine AW.seq ?_
     refine AW.drawT (N := ?N3) (l := #[false, false, false, false, false, false, false, false, false, false, false, false, false, false, false, false, false, false, false, false, false]) 21 (by kernel_rfl) rfl rfl ?_ ?_
     rotate_left
     refine AN.rp (i := 0) (l' := #[true, false, false, false, false, false, false, false, false, false, false, false, false, false, false, false, false, false, false, false, false]) rfl rfl rfl (fun _ _ h => h) (by kernel_rfl) rfl (rp_move rfl rfl) ?_
     refine AN.rp (i := 1) (l' := #[true, true, false, false, false, false, false, false, false, false, false, false, false, false, false, false, false, false, false, false, false]) rfl rfl rfl (fun _ _ h => h) (by kernel_rfl) rfl (rp_move rfl rfl) ?_
     refine AN.rp (i := 2) (l' := #[true, true, true, false, false, false, false, false, false, false, false, false, false, false, false, false, false, false, false, false, false]) rfl rfl rfl (fun _ _ h => h) (by kernel_rfl) rfl (rp_index_map Try.underlying48 inf54 rfl rfl rfl rfl (by assumption)) ?_
     refine AN.br1 (i := 3) (by kernel_rfl) ?_
     refine BR.mk (l' := #[true, true, true, true, false, false, false, false, false, false, false, false, false, false, false, false, false, false, false, false, false]) rfl rfl rfl ?_
     refine ST.rd rfl (rd_loads_ad Try.underlying54 rfl inf54 rfl rfl rfl rfl) ?_
     refine AN.br1 (i := 4) (by kernel_rfl) ?_
     refine BR.mk (l' := #[true, true, true, true, true, false, false, false, false, false, false, false, false, false, false, false, false, false, false, false, false]) rfl rfl rfl ?_
     refine ST.call (post := ?pc3) (sm_call (args := [_]) ?hc3 ⟨Try.func42, rfl, rfl, rfl, rfl⟩ rfl rfl rfl rfl) ?_
     case hc3 => exact hem
     rintro _ rfl -
     try dsimp only
     refine AN.rp (i := 5) (l' := #[true, true, true, true, true, true, false, false, false, false, false, false, false, false, false, false, false, false, false, false, false]) rfl rfl rfl (fun _ _ h => h) (by kernel_rfl) rfl (rp_move rfl rfl) ?_
     refine AN.rpy (i := 6) (l' := #[true, true, true, true, true, true, true, false, false, false, false, false, false, false, false, false, false, false, false, false, false]) rfl rfl rfl rfl (fun _ _ h => h) (by kernel_rfl) rfl (rp_move rfl rfl) ?_
     refine AN.rpy (i := 7) (l' := #[true, true, true, true, true, true, true, true, false, false, false, false, false, false, false, false, false, false, false, false, false]) rfl rfl rfl rfl (fun _ _ h => h) (by kernel_rfl) rfl (rp_move rfl rfl) ?_
     refine AN.rpy (i := 8) (l' := #[true, true, true, true, true, true, true, true, true, false, false, false, false, false, false, false, false, false, false, false, false]) rfl rfl rfl rfl (fun _ _ h => h) (by kernel_rfl) rfl (rp_index_map Try.underlying48 inf54 rfl rfl rfl rfl (by assumption)) ?_
     refine AN.rpy (i := 9) (l' := #[true, true, true, true, true, true, true, true, true, true, false, false, false, false, false, false, false, false, false, false, false]) rfl rfl rfl rfl (fun _ _ h => h) (by kernel_rfl) rfl (rp_field_ad Try.underlying54 rfl rfl rfl inf3 (by decide) rfl) ?_
     refine AN.rpy (i := 11) (l' := #[true, true, true, true, true, true, true, true, true, true, false, true, false, false, false, false, false, false, false, false, false]) rfl rfl rfl rfl (fun _ _ h => h) (by kernel_rfl) rfl (rp_move rfl rfl) ?_
     refine AN.rpy (i := 12) (l' := #[true, true, true, true, true, true, true, true, true, true, false, true, true, false, false, false, false, false, false, false, false]) rfl rfl rfl rfl (fun _ _ h => h) (by kernel_rfl) rfl (rp_move rfl rfl) ?_
     refine AN.rpy (i := 13) (l' := #[true, true, true, true, true, true, true, true, true, true, false, true, true, true, false, false, false, false, false, false, false]) rfl rfl rfl rfl (fun _ _ h => h) (by kernel_rfl) rfl (rp_move rfl rfl) ?_
     refine AN.rpy (i := 14) (l' := #[true, true, true, true, true, true, true, true, true, true, false, true, true, true, true, false, false, false, false, false, false]) rfl rfl rfl rfl (fun _ _ h => h) (by kernel_rfl) rfl (rp_index_map Try.underlying48 inf54 rfl rfl rfl rfl (by assumption)) ?_
     refine AN.rpy (i := 15) (l' := #[true, true, true, true, true, true, true, true, true, true, false, true, true, true, true, true, false, false, false, false, false]) rfl rfl rfl rfl (fun _ _ h => h) (by kernel_rfl) rfl (rp_field_ad Try.underlying54 rfl rfl rfl inf3 (by decide) rfl) ?_
     refine AN.br2 (i := 10) (j := 16) (by kernel_rfl) ?_ ?_
     ·refine BR.mky (l' := #[true, true, true, true, true, true, true, true, true, true, true, true, true, true, true, true, false, false, false, false, false]) rfl rfl rfl rfl ?_
      refine ST.rd rfl (rd_load_ad Try.underlying3 rfl rfl rfl rfl) ?_
      refine AN.br1 (i := 16) (by kernel_rfl) ?_
      refine BR.mky (l' := #[true, true, true, true, true, true, true, true, true, true, true, true, true, true, true, true, true, false, false, false, false]) rfl rfl rfl rfl ?_
      refine ST.rd rfl (rd_load_ad Try.underlying3 rfl rfl rfl rfl) ?_
      refine AN.rpy (i := 17) (l' := #[true, true, true, true, true, true, true, true, true, true, true, true, true, true, true, true, true, true, false, false, false]) rfl rfl rfl rfl (fun _ _ h => h) (by kernel_rfl) rfl (rp_index_own Try.underlying82 inf3 rfl rfl rfl rfl (by first | assumption | omega)) ?_
      refine AN.br1 (i := 18) (by kernel_rfl) ?_
      refine BR.mky (l' := #[true, true, true, true, true, true, true, true, true, true, true, true, true, true, true, true, true, true, true, false, false]) rfl rfl rfl rfl ?_
      refine ST.rd rfl (rd_load_map Try.underlying3 rfl rfl rfl rfl rfl rfl (by assumption)) ?_
      (refine AN.rpy (i := 19) (l' := #[true, true, true, true, true, true, true, true, true, true, true, true, true, true, true, true, true, true, true, true, false]) rfl rfl rfl rfl (fun _ _ h => h) (by kernel_rfl) rfl (rp_lssT rfl rfl rfl (by first | assumption | omega | (dsimp only; omega))) ?_)
      refine AN.rp (i := 20) (l' := #[true, true, true, true, true, true, true, true, true, true, true, true, true, true, true, true, true, true, true, true, true]) rfl rfl rfl (fun _ _ h => h) (by kernel_rfl) rfl (rp_pick rfl rfl rfl) ?_
      refine AN.nil (by kernel_rfl) ?_
      show Less _ _
      exact Less.refl _
     ·refine BR.mky (l' := #[true, true, true, true, true, true, true, true, true, true, false, true, true, true, true, true, true, false, false, false, false]) rfl rfl rfl rfl ?_
      refine ST.rd rfl (rd_load_ad Try.underlying3 rfl rfl rfl rfl) ?_
      refine AN.rpy (i := 17) (l' := #[true, true, true, true, true, true, true, true, true, true, false, true, true, true, true, true, true, true, false, false, false]) rfl rfl rfl rfl (fun _ _ h => h) (by kernel_rfl) rfl (rp_index_own Try.underlying82 inf3 rfl rfl rfl rfl (by first | assumption | omega)) ?_
      refine AN.br2 (i := 10) (j := 18) (by kernel_rfl) ?_ ?_
      ·refine BR.mky (l' := #[true, true, true, true, true, true, true, true, true, true, true, true, true, true, true, true, true, true, false, false, false]) rfl rfl rfl rfl ?_
       refine ST.rd rfl (rd_load_ad Try.underlying3 rfl rfl rfl rfl) ?_
       refine AN.br1 (i := 18) (by kernel_rfl) ?_
       refine BR.mky (l' := #[true, true, true, true, true, true, true, true, true, true, true, true, true, true, true, true, true, true, true, false, false]) rfl rfl rfl rfl ?_
       refine ST.rd rfl (rd_load_map Try.underlying3 rfl rfl rfl rfl rfl rfl (by assumption)) ?_
       (refine AN.rpy (i := 19) (l' := #[true, true, true, true, true, true, true, true, true, true, true, true, true, true, true, true, true, true, true, true, false]) rfl rfl rfl rfl (fun _ _ h => h) (by kernel_rfl) rfl (rp_lssT rfl rfl rfl (by first | assumption | omega | (dsimp only; omega))) ?_)
       refine AN.rp (i := 20) (l' := #[true, true, true, true, true, true, true, true, true, true, true, true, true, true, true, true, true, true, true, true, true]) rfl rfl rfl (fun _ _ h => h) (by kernel_rfl) rfl (rp_pick rfl rfl rfl) ?_
       refine AN.nil (by kernel_rfl) ?_
       show Less _ _
       (try simp only [S.put, S.newObj, setL, V.cs, List.length_cons, List.length_nil, List.take_succ_cons, List.take_zero, List.drop_succ_cons, List.drop_zero, List.drop_nil, List.nil_append, List.cons_append, List.append_nil, Nat.zero_add, Nat.reduceAdd, List.map_cons, List.map_nil, List.set_cons_zero, List.set_cons_succ])
       exact (Less.of rfl (by repeat (first | exact trivial | refine ⟨⟨_, rfl, Wk.refl _⟩, ?_⟩)) (by repeat (first | exact trivial | refine ⟨rfl, ?_⟩ | exact LH.fam | refine LH.skip (by decide) ?_)) rfl)
      ·refine BR.mky (l' := #[true, true, true, true, true, true, true, true, true, true, false, true, true, true, true, true, true, true, true, false, false]) rfl rfl rfl rfl ?_
       refine ST.rd rfl (rd_load_map Try.underlying3 rfl rfl rfl rfl rfl rfl (by assumption)) ?_
       refine AN.br1 (i := 10) (by kernel_rfl) ?_
       refine BR.mky (l' := #[true, true, true, true, true, true, true, true, true, true, true, true, true, true, true, true, true, true, true, false, false]) rfl rfl rfl rfl ?_
       refine ST.rd rfl (rd_load_ad Try.underlying3 rfl rfl rfl rfl) ?_
       (refine AN.rpy (i := 19) (l' := #[true, true, true, true, true, true, true, true, true, true, true, true, true, true, true, true, true, true, true, true, false]) rfl rfl rfl rfl (fun _ _ h => h) (by kernel_rfl) rfl (rp_lssT rfl rfl rfl (by first | assumption | omega | (dsimp only; omega))) ?_)
       refine AN.rp (i := 20) (l' := #[true, true, true, true, true, true, true, true, true, true, true, true, true, true, true, true, true, true, true, true, true]) rfl rfl rfl (fun _ _ h => h) (by kernel_rfl) rfl (rp_pick rfl rfl rfl) ?_
       refine AN.nil (by kernel_rfl) ?_
       show Less _ _
       (try simp only [S.put, S.newObj, setL, V.cs, List.length_cons, List.length_nil, List.take_succ_cons, List.take_zero, List.drop_succ_cons, List.drop_zero, List.drop_nil, List.nil_append, List.cons_append, List.append_nil, Nat.zero_add, Nat.reduceAdd, List.map_cons, List.map_nil, List.set_cons_zero, List.set_cons_succ])
       exact (Less.of rfl (by repeat (first | exact trivial | refine ⟨⟨_, rfl, Wk.refl _⟩, ?_⟩)) (by repeat (first | exact trivial | refine ⟨rfl, ?_⟩ | exact LH.fam | refine LH.skip (by decide) ?_)) rfl)
     (try simp only [S.put, S.newObj, setL, V.cs, List.length_cons, List.length_nil, List.take_succ_cons, List.take_zero, List.drop_succ_cons, List.drop_zero, List.drop_nil, List.nil_append, List.cons_append, List.append_nil, Nat.zero_add, Nat.reduceAdd, List.map_cons, List.map_nil, List.set_cons_zero, List.set_cons_succ])
     try simp only [S.dd, ddL, List.contains_cons, List.contains_nil, Nat.reduceBEq, beq_self_eq_true, Bool.or_false, Bool.or_true, Bool.false_or, Bool.true_or, Bool.or_self, if_true, if_false, Bool.false_eq_true, ↓reduceIte]
     try simp only [thenS, S.put, S.newObj, setL, V.cs, List.length_cons, List.length_nil, List.take_succ_cons, List.take_zero, List.drop_succ_cons, List.drop_zero, List.drop_nil, List.nil_append, List.cons_append, List.append_nil, Nat.zero_add, Nat.reduceAdd, List.map_cons, List.map_nil, List.set_cons_zero, List.set_cons_succ]
     refine AW.condT rfl ?_
     refine AW.draw [(0, true), (1, true), (2, true), (3, true), (4, true), (5, true), (6, true), (7, true), (8, true), (9, true), (10, true), (11, true), (12, false)] (fun i => !([12] : List Nat).contains i) 13 (by kernel_rfl) (by kernel_rfl) rfl (by kernel_rfl) ?_
     refine AD1.rp rfl rfl rfl (fun _ _ h => h) (rp_move rfl rfl) ?_
     refine AD1.rp rfl rfl rfl (fun _ _ h => h) (rp_move rfl rfl) ?_
     refine AD1.rp rfl rfl rfl (fun _ _ h => h) (rp_move rfl rfl) ?_
     refine AD1.rp rfl rfl rfl (fun _ _ h => h) (rp_index_map Try.underlying48 inf54 rfl rfl rfl rfl (by assumption)) ?_
     refine AD1.rp rfl rfl rfl (fun _ _ h => h) (rp_field_ad Try.underlying54 rfl rfl rfl inf3 (by decide) rfl) ?_
     refine AD1.rd rfl rfl rfl (fun _ _ h => h) (rd_load_ad Try.underlying3 rfl rfl rfl rfl) ?_
     refine AD1.rp rfl rfl rfl (fun _ _ h => h) (rp_move rfl rfl) ?_
     refine AD1.rp rfl rfl rfl (fun _ _ h => h) (rp_move rfl rfl) ?_
     refine AD1.rp rfl rfl rfl (fun _ _ h => h) (rp_index_map Try.underlying48 inf54 rfl rfl rfl rfl (by assumption)) ?_
     refine AD1.rp rfl rfl rfl (fun _ _ h => h) (rp_field_ad Try.underlying54 rfl rfl rfl inf3 (by decide) rfl) ?_
     refine AD1.rd rfl rfl rfl (fun _ _ h => h) (rd_load_ad Try.underlying3 rfl rfl rfl rfl) ?_
     refine AD1.rp rfl rfl rfl (fun _ _ h => h) (rp_index_own Try.underlying82 inf3 rfl rfl rfl rfl (by first | assumption | omega)) ?_
     refine AD1.go ?_
     refine AD2.go ?_
     refine AD3.st rfl rfl rfl (st_store_map2 (v := v) inf3 rfl rfl rfl rfl rfl rfl rfl rfl (by first | assumption | omega)) ?_
     refine AD3.nil ?_
     try simp only [thenS, S.put, S.newObj, setL, V.cs, List.length_cons, List.length_nil, List.take_succ_cons, List.take_zero, List.drop_succ_cons, List.drop_zero, List.drop_nil, List.nil_append, List.cons_append, List.append_nil, Nat.zero_add, Nat.reduceAdd, List.map_cons, List.map_nil, List.set_cons_zero, List.set_cons_succ]
     refine AW.region ?_
     refine AL.rp rfl rfl (rp_move rfl rfl) ?_
     refine AL.rp rfl rfl (rp_add rfl rfl rfl (by first | omega | (dsimp only; omega))) ?_
     refine AL.rp rfl rfl (rp_assign rfl rfl) ?_
     refine AL.nil ?_
     try simp only [thenS, S.put, List.nil_append, List.cons_append]
     refine ⟨_, ?_, ⟨i + 1, R.set p v, by omega, hs, rfl⟩, ?_⟩
     ·exact (Less.of rfl (by repeat (first | exact trivial | refine ⟨⟨_, rfl, Wk.refl _⟩, ?_⟩ | refine ⟨⟨_, rfl, Wk.nil _ _⟩, ?_⟩ | refine ⟨⟨_, rfl, Wk.junk _⟩, ?_⟩)) (by repeat (first | exact trivial | refine ⟨rfl, ?_⟩ | exact LH.fam | refine LH.skip (by decide) ?_)) rfl)
     ·simp [S.nat, fnd]; omega
    ·have hs := mn_skip (q := q) (n := n) ha (fun _ p' hp' _ => by
      simp only [Int.natCast_inj] at hp'
      subst hp'
      rw [hy]; simp only; omega)
     refine AW.seq ?_
     refine AW.seq ?_
     refine AW.region ?_
     refine AL.rp rfl rfl (rp_move rfl rfl) ?_
     refine AL.rp rfl rfl (rp_move rfl rfl) ?_
     refine AL.rp rfl rfl (rp_len_map Try.underlying48 rfl rfl (by assumption)) ?_
     (refine AL.rp rfl rfl (rp_lssT rfl rfl rfl (by first | assumption | omega | (dsimp only; omega))) ?_)
     refine AL.nil ?_
     try simp only [thenS, S.put, List.nil_append, List.cons_append]
     refine AW.condT rfl ?_
     refine AW.skip ?_
     try simp only [thenS, List.nil_append, List.cons_append]
     refine AW.seq ?_
     refine AW.block ?_
     refine AW.seq ?_
     refine AW.drawT (N := ?N5) (l := #[false, false, false, false, false, false, false, false, false, false, false, false, false, false, false, false, false, false, false, false, false]) 21 (by kernel_rfl) rfl rfl ?_ ?_
     rotate_left
     refine AN.rp (i := 0) (l' := #[true, false, false, false, false, false, false, false, false, false, false, false, false, false, false, false, false, false, false, false, false]) rfl rfl rfl (fun _ _ h => h) (by kernel_rfl) rfl (rp_move rfl rfl) ?_
     refine AN.rp (i := 1) (l' := #[true, true, false, false, false, false, false, false, false, false, false, false, false, false, false, false, false, false, false, false, false]) rfl rfl rfl (fun _ _ h => h) (by kernel_rfl) rfl (rp_move rfl rfl) ?_
     refine AN.rp (i := 2) (l' := #[true, true, true, false, false, false, false, false, false, false, false, false, false, false, false, false, false, false, false, false, false]) rfl rfl rfl (fun _ _ h => h) (by kernel_rfl) rfl (rp_index_map Try.underlying48 inf54 rfl rfl rfl rfl (by assumption)) ?_
     refine AN.br1 (i := 3) (by kernel_rfl) ?_
     refine BR.mk (l' := #[true, true, true, true, false, false, false, false, false, false, false, false, false, false, false, false, false, false, false, false, false]) rfl rfl rfl ?_
     refine ST.rd rfl (rd_loads_ad Try.underlying54 rfl inf54 rfl rfl rfl rfl) ?_
     refine AN.br1 (i := 4) (by kernel_rfl) ?_
     refine BR.mk (l' := #[true, true, true, true, true, false, false, false, false, false, false, false, false, false, false, false, false, false, false, false, false]) rfl rfl rfl ?_
     refine ST.call (post := ?pc5) (sm_call (args := [_]) ?hc5 ⟨Try.func42, rfl, rfl, rfl, rfl⟩ rfl rfl rfl rfl) ?_
     case hc5 => exact hem
     rintro _ rfl -
     try dsimp only
     refine AN.rp (i := 5) (l' := #[true, true, true, true, true, true, false, false, false, false, false, false, false, false, false, false, false, false, false, false, false]) rfl rfl rfl (fun _ _ h => h) (by kernel_rfl) rfl (rp_move rfl rfl) ?_
     refine AN.rpy (i := 6) (l' := #[true, true, true, true, true, true, true, false, false, false, false, false, false, false, false, false, false, false, false, false, false]) rfl rfl rfl rfl (fun _ _ h => h) (by kernel_rfl) rfl (rp_move rfl rfl) ?_
     refine AN.rpy (i := 7) (l' := #[true, true, true, true, true, true, true, true, false, false, false, false, false, false, false, false, false, false, false, false, false]) rfl rfl rfl rfl (fun _ _ h => h) (by kernel_rfl) rfl (rp_move rfl rfl) ?_
     refine AN.rpy (i := 8) (l' := #[true, true, true, true, true, true, true, true, true, false, false, false, false, false, false, false, false, false, false, false, false]) rfl rfl rfl rfl (fun _ _ h => h) (by kernel_rfl) rfl (rp_index_map Try.underlying48 inf54 rfl rfl rfl rfl (by assumption)) ?_
     refine AN.rpy (i := 9) (l' := #[true, true, true, true, true, true, true, true, true, true, false, false, false, false, false, false, false, false, false, false, false]) rfl rfl rfl rfl (fun _ _ h => h) (by kernel_rfl) rfl (rp_field_ad Try.underlying54 rfl rfl rfl inf3 (by decide) rfl) ?_
     refine AN.rpy (i := 11) (l' := #[true, true, true, true, true, true, true, true, true, true, false, true, false, false, false, false, false, false, false, false, false]) rfl rfl rfl rfl (fun _ _ h => h) (by kernel_rfl) rfl (rp_move rfl rfl) ?_
     refine AN.rpy (i := 12) (l' := #[true, true, true, true, true, true, true, true, true, true, false, true, true, false, false, false, false, false, false, false, false]) rfl rfl rfl rfl (fun _ _ h => h) (by kernel_rfl) rfl (rp_move rfl rfl) ?_
     refine AN.rpy (i := 13) (l' := #[true, true, true, true, true, true, true, true, true, true, false, true, true, true, false, false, false, false, false, false, false]) rfl rfl rfl rfl (fun _ _ h => h) (by kernel_rfl) rfl (rp_move rfl rfl) ?_
     refine AN.rpy (i := 14) (l' := #[true, true, true, true, true, true, true, true, true, true, false, true, true, true, true, false, false, false, false, false, false]) rfl rfl rfl rfl (fun _ _ h => h) (by kernel_rfl) rfl (rp_index_map Try.underlying48 inf54 rfl rfl rfl rfl (by assumption)) ?_
     refine AN.rpy (i := 15) (l' := #[true, true, true, true, true, true, true, true, true, true, false, true, true, true, true, true, false, false, false, false, false]) rfl rfl rfl rfl (fun _ _ h => h) (by kernel_rfl) rfl (rp_field_ad Try.underlying54 rfl rfl rfl inf3 (by decide) rfl) ?_
     refine AN.br2 (i := 10) (j := 16) (by kernel_rfl) ?_ ?_
     ·refine BR.mky (l' := #[true, true, true, true, true, true, true, true, true, true, true, true, true, true, true, true, false, false, false, false, false]) rfl rfl rfl rfl ?_
      refine ST.rd rfl (rd_load_ad Try.underlying3 rfl rfl rfl rfl) ?_
      refine AN.br1 (i := 16) (by kernel_rfl) ?_
      refine BR.mky (l' := #[true, true, true, true, true, true, true, true, true, true, true, true, true, true, true, true, true, false, false, false, false]) rfl rfl rfl rfl ?_
      refine ST.rd rfl (rd_load_ad Try.underlying3 rfl rfl rfl rfl) ?_
      refine AN.rpy (i := 17) (l' := #[true, true, true, true, true, true, true, true, true, true, true, true, true, true, true, true, true, true, false, false, false]) rfl rfl rfl rfl (fun _ _ h => h) (by kernel_rfl) rfl (rp_index_own Try.underlying82 inf3 rfl rfl rfl rfl (by first | assumption | omega)) ?_
      refine AN.br1 (i := 18) (by kernel_rfl) ?_
      refine BR.mky (l' := #[true, true, true, true, true, true, true, true, true, true, true, true, true, true, true, true, true, true, true, false, false]) rfl rfl rfl rfl ?_
      refine ST.rd rfl (rd_load_map Try.underlying3 rfl rfl rfl rfl rfl rfl (by assumption)) ?_
      (refine AN.rpy (i := 19) (l' := #[true, true, true, true, true, true, true, true, true, true, true, true, true, true, true, true, true, true, true, true, false]) rfl rfl rfl rfl (fun _ _ h => h) (by kernel_rfl) rfl (rp_lssF rfl rfl rfl (by first | assumption | omega | (dsimp only; omega))) ?_)
      refine AN.rp (i := 20) (l' := #[true, true, true, true, true, true, true, true, true, true, true, true, true, true, true, true, true, true, true, true, true]) rfl rfl rfl (fun _ _ h => h) (by kernel_rfl) rfl (rp_pick rfl rfl rfl) ?_
      refine AN.nil (by kernel_rfl) ?_
      show Less _ _
      exact Less.refl _
     ·refine BR.mky (l' := #[true, true, true, true, true, true, true, true, true, true, false, true, true, true, true, true, true, false, false, false, false]) rfl rfl rfl rfl ?_
      refine ST.rd rfl (rd_load_ad Try.underlying3 rfl rfl rfl rfl) ?_
      refine AN.rpy (i := 17) (l' := #[true, true, true, true, true, true, true, true, true, true, false, true, true, true, true, true, true, true, false, false, false]) rfl rfl rfl rfl (fun _ _ h => h) (by kernel_rfl) rfl (rp_index_own Try.underlying82 inf3 rfl rfl rfl rfl (by first | assumption | omega)) ?_
      refine AN.br2 (i := 10) (j := 18) (by kernel_rfl) ?_ ?_
      ·refine BR.mky (l' := #[true, true, true, true, true, true, true, true, true, true, true, true, true, true, true, true, true, true, false, false, false]) rfl rfl rfl rfl ?_
       refine ST.rd rfl (rd_load_ad Try.underlying3 rfl rfl rfl rfl) ?_
       refine AN.br1 (i := 18) (by kernel_rfl) ?_
       refine BR.mky (l' := #[true, true, true, true, true, true, true, true, true, true, true, true, true, true, true, true, true, true, true, false, false]) rfl rfl rfl rfl ?_
       refine ST.rd rfl (rd_load_map Try.underlying3 rfl rfl rfl rfl rfl rfl (by assumption)) ?_
       (refine AN.rpy (i := 19) (l' := #[true, true, true, true, true, true, true, true, true, true, true, true, true, true, true, true, true, true, true, true, false]) rfl rfl rfl rfl (fun _ _ h => h) (by kernel_rfl) rfl (rp_lssF rfl rfl rfl (by first | assumption | omega | (dsimp only; omega))) ?_)
       refine AN.rp (i := 20) (l' := #[true, true, true, true, true, true, true, true, true, true, true, true, true, true, true, true, true, true, true, true, true]) rfl rfl rfl (fun _ _ h => h) (by kernel_rfl) rfl (rp_pick rfl rfl rfl) ?_
       refine AN.nil (by kernel_rfl) ?_
       show Less _ _
       (try simp only [S.put, S.newObj, setL, V.cs, List.length_cons, List.length_nil, List.take_succ_cons, List.take_zero, List.drop_succ_cons, List.drop_zero, List.drop_nil, List.nil_append, List.cons_append, List.append_nil, Nat.zero_add, Nat.reduceAdd, List.map_cons, List.map_nil, List.set_cons_zero, List.set_cons_succ])
       exact (Less.of rfl (by repeat (first | exact trivial | refine ⟨⟨_, rfl, Wk.refl _⟩, ?_⟩)) (by repeat (first | exact trivial | refine ⟨rfl, ?_⟩ | exact LH.fam | refine LH.skip (by decide) ?_)) rfl)
      ·refine BR.mky (l' := #[true, true, true, true, true, true, true, true, true, true, false, true, true, true, true, true, true, true, true, false, false]) rfl rfl rfl rfl ?_
       refine ST.rd rfl (rd_load_map Try.underlying3 rfl rfl rfl rfl rfl rfl (by assumption)) ?_
       refine AN.br1 (i := 10) (by kernel_rfl) ?_
       refine BR.mky (l' := #[true, true, true, true, true, true, true, true, true, true, true, true, true, true, true, true, true, true, true, false, false]) rfl rfl rfl rfl ?_
       refine ST.rd rfl (rd_load_ad Try.underlying3 rfl rfl rfl rfl) ?_
       (refine AN.rpy (i := 19) (l' := #[true, true, true, true, true, true, true, true, true, true, true, true, true, true, true, true, true, true, true, true, false]) rfl rfl rfl rfl (fun _ _ h => h) (by kernel_rfl) rfl (rp_lssF rfl rfl rfl (by first | assumption | omega | (dsimp only; omega))) ?_)
       refine AN.rp (i := 20) (l' := #[true, true, true, true, true, true, true, true, true, true, true, true, true, true, true, true, true, true, true, true, true]) rfl rfl rfl (fun _ _ h => h) (by kernel_rfl) rfl (rp_pick rfl rfl rfl) ?_
       refine AN.nil (by kernel_rfl) ?_
       show Less _ _
       (try simp only [S.put, S.newObj, setL, V.cs, List.length_cons, List.length_nil, List.take_succ_cons, List.take_zero, List.drop_succ_cons, List.drop_zero, List.drop_nil, List.nil_append, List.cons_append, List.append_nil, Nat.zero_add, Nat.reduceAdd, List.map_cons, List.map_nil, List.set_cons_zero, List.set_cons_succ])
       exact (Less.of rfl (by repeat (first | exact trivial | refine ⟨⟨_, rfl, Wk.refl _⟩, ?_⟩)) (by repeat (first | exact trivial | refine ⟨rfl, ?_⟩ | exact LH.fam | refine LH.skip (by decide) ?_)) rfl)
     (try simp only [S.put, S.newObj, setL, V.cs, List.length_cons, List.length_nil, List.take_succ_cons, List.take_zero, List.drop_succ_cons, List.drop_zero, List.drop_nil, List.nil_append, List.cons_append, List.append_nil, Nat.zero_add, Nat.reduceAdd, List.map_cons, List.map_nil, List.set_cons_zero, List.set_cons_succ])
     try simp only [S.dd, ddL, List.contains_cons, List.contains_nil, Nat.reduceBEq, beq_self_eq_true, Bool.or_false, Bool.or_true, Bool.false_or, Bool.true_or, Bool.or_self, if_true, if_false, Bool.false_eq_true, ↓reduceIte]
     try simp only [thenS, S.put, S.newObj, setL, V.cs, List.length_cons, List.length_nil, List.take_succ_cons, List.take_zero, List.drop_succ_cons, List.drop_zero, List.drop_nil, List.nil_append, List.cons_append, List.append_nil, Nat.zero_add, Nat.reduceAdd, List.map_cons, List.map_nil, List.set_cons_zero, List.set_cons_succ]
     refine AW.condF rfl ?_
     refine AW.skip ?_
     try simp only [thenS, List.nil_append, List.cons_append]
     refine AW.region ?_
     refine AL.rp rfl rfl (rp_move rfl rfl) ?_
     refine AL.rp rfl rfl (rp_add rfl rfl rfl (by first | omega | (dsimp only; omega))) ?_
     refine AL.rp rfl rfl (rp_assign rfl rfl) ?_
     refine AL.nil ?_
     try simp only [thenS, S.put, List.nil_append, List.cons_append]
     refine ⟨_, ?_, ⟨i + 1, R, by omega, by rw [hs, hR], rfl⟩, ?_⟩
     ·exact (Less.of rfl (by repeat (first | exact trivial | refine ⟨⟨_, rfl, Wk.refl _⟩, ?_⟩ | refine ⟨⟨_, rfl, Wk.nil _ _⟩, ?_⟩ | refine ⟨⟨_, rfl, Wk.junk _⟩, ?_⟩)) (by repeat (first | exact trivial | refine ⟨rfl, ?_⟩ | exact LH.fam | refine LH.skip (by decide) ?_)) rfl)
     ·simp [S.nat, fnd]; omega
  ·rw [List.take_of_length_le (by omega), ← hxa] at hR
   have hrow2 := fm_row R hRl hn0
   have hown : V.own 22 1 n false = .own 22 FM.sz (FM.it R).length (FM.it R).isEmpty := by rw [fm_len, hRl, fm_emp R hRl hn0]; rfl
   have hL2 : L ++ [R] = bl (fun q => bl (fw sts 0 q) n) (q + 1) := by
    rw [hL, hR]
    unfold bl
    rw [List.range_succ, List.map_append]; rfl
   refine AW.seq ?_
   refine AW.seq ?_
   refine AW.region ?_
   refine AL.rp rfl rfl (rp_move rfl rfl) ?_
   refine AL.rp rfl rfl (rp_move rfl rfl) ?_
   refine AL.rp rfl rfl (rp_len_map Try.underlying48 rfl rfl (by assumption)) ?_
   (refine AL.rp rfl rfl (rp_lssF rfl rfl rfl (by first | assumption | omega | (dsimp only; omega))) ?_)
   refine AL.nil ?_
   try simp only [thenS, S.put, List.nil_append, List.cons_append]
   refine AW.condF rfl ?_
   refine AW.exit ?_
   try simp only [thenS, inBlockS, ↓reduceIte, Nat.reduceEqDiff, List.nil_append, List.cons_append]
   refine AW.region ?_
   refine AL.rp rfl rfl (rp_move rfl rfl) ?_
   refine AL.rp rfl rfl (rp_move rfl rfl) ?_
   refine AL.sm rfl (sm_slice (vs := [(0, _)]) (zs := [.d (.p (.slice none 0 0))]) 81 Try.underlying85 inf82 rfl rfl (by decide) (by decide) (by decide) rfl rfl rfl rfl (by first | rfl | (simp only [S.clean, S.put, S.newObj, List.all_cons, objs_clean_low, Nat.reduceLT]; simp [S.forget, V.has, V.hasL, junkIf, setL, V.cs, hasL_i, hasL_b, hasL_s, hasL_n, hasL_rep, hasL_flat, hasL_append, cells_hasL_low, has_ownV, hasL_frep, nb1, nb2, nb3, nb4, -List.map_set]; try omega)) rfl rfl) ?_
   refine AL.st rfl (st_appendF Try.underlying85 inf82 rfl (by decide) rfl rfl rfl rfl rfl rfl (by first | assumption | rfl | (simp; done)) (by first | rfl | (simp only [S.clean, S.put, S.newObj, List.all_cons, objs_clean_low, Nat.reduceLT]; simp [S.forget, V.has, V.hasL, junkIf, setL, V.cs, hasL_i, hasL_b, hasL_s, hasL_n, hasL_rep, hasL_flat, hasL_append, cells_hasL_low, has_ownV, hasL_frep, nb1, nb2, nb3, nb4, -List.map_set]; try omega)) rfl rfl rfl rfl rfl rfl rfl (by decide) (by omega) (by omega) rfl) ?_
   simp only [objs_filter_low, Fam.objs_forget, cells_hasL_low, has_ownV, nb3, nb4, Nat.reduceLT, S.forget, S.put, S.newObj, junkIf, V.has, V.hasL, hasL_i, hasL_b, hasL_s, hasL_d, hasL_n, hasL_rep, hasL_flat, hasL_append, List.map_cons, List.map_nil, List.filter_cons, List.filter_nil, Nat.reduceBNe, Nat.reduceBEq, eq_self, bne_self_eq_false,  Bool.not_true, Bool.not_false, Bool.or_false, Bool.or_true, Bool.false_or, Bool.true_or, if_true, if_false, Bool.false_eq_true, ite_true, ite_false, ↓reduceIte, beq_self_eq_true, Nat.reduceEqDiff]
   refine AL.rp rfl rfl (rp_assign rfl rfl) ?_
   refine AL.nil ?_
   try simp only [thenS, S.put, S.newObj, setL, V.cs, List.length_cons, List.length_nil, List.take_succ_cons, List.take_zero, List.drop_succ_cons, List.drop_zero, List.drop_nil, List.nil_append, List.cons_append, List.append_nil, Nat.zero_add, Nat.reduceAdd, List.map_cons, List.map_nil, List.set_cons_zero, List.set_cons_succ]
   refine AW.less (s' := ⟨163, [(1, .ref 1 0), (3, .i n), (4, .own 901 1 (q + 1) false), (5, .i q)], [(1, ⟨24, [.i st, .d (stsD sts)], false, 0⟩), (22, ⟨3, R.map V.n, false, 1⟩), (901, ⟨82, FM.cells 1000 L ++ [.own 22 1 n false], false, 1⟩)] ++ FM.objs 1000 L, []⟩) (Less.of rfl (by repeat (first | exact trivial | refine ⟨⟨_, rfl, Wk.refl _⟩, ?_⟩ | refine ⟨⟨_, rfl, Wk.nil _ _⟩, ?_⟩ | refine ⟨⟨_, rfl, Wk.junk _⟩, ?_⟩)) (by repeat (first | exact trivial | refine ⟨rfl, ?_⟩ | exact LH.fam | refine LH.skip (by decide) ?_)) rfl) ?_
   refine AW.famPush (F := FM) [_, _, _] 901 22 R rfl rfl rfl (by rw [hrow2]; rfl) (by rw [hown]; rfl) (by decide) rfl (by simp [V.hasL, V.has]) rfl rfl (by intro y hy hne r hr; simp only [List.mem_cons, List.not_mem_nil, or_false] at hy; rcases hy with rfl | rfl | rfl <;> first | exact absurd rfl hne | rfl | exact hasL_n _ _) rfl rfl ?_
   refine AW.region ?_
   refine AL.rp rfl rfl (rp_move rfl rfl) ?_
   refine AL.rp rfl rfl (rp_add rfl rfl rfl (by first | omega | (dsimp only; omega))) ?_
   refine AL.rp rfl rfl (rp_assign rfl rfl) ?_
   refine AL.nil ?_
   try simp only [thenS, S.put, List.nil_append, List.cons_append]
   refine ⟨_, ?_, ⟨q + 1, L ++ [R], by omega, by simp [hLl], hL2, rfl⟩, ?_⟩
   ·exact (Less.of rfl (by repeat (first | exact trivial | refine ⟨⟨_, rfl, Wk.refl _⟩, ?_⟩ | refine ⟨⟨_, rfl, Wk.nil _ _⟩, ?_⟩ | refine ⟨⟨_, rfl, Wk.junk _⟩, ?_⟩)) (by repeat (first | exact trivial | refine ⟨rfl, ?_⟩ | exact LH.fam | refine LH.skip (by decide) ?_)) rfl)
   ·simp [S.nat, fnd]; omega
 obtain rfl : q = n := by omega
 have hL0 : L = mt (fw sts 0) q := hL
 clear hL hz4
 refine AW.seq ?_
 refine AW.seq ?_
 refine AW.region ?_
 refine AL.rp rfl rfl (rp_move rfl rfl) ?_
 refine AL.rp rfl rfl (rp_move rfl rfl) ?_
 (refine AL.rp rfl rfl (rp_lssF rfl rfl rfl (by first | assumption | omega | (dsimp only; omega))) ?_)
 refine AL.nil ?_
 try simp only [thenS, S.put, List.nil_append, List.cons_append]
 refine AW.condF rfl ?_
 refine AW.exit ?_
 try simp only [thenS, inBlockS, ↓reduceIte, Nat.reduceEqDiff, List.nil_append, List.cons_append]
 refine AW.seq ?_
 refine AW.seq ?_
 refine AW.region ?_
 refine AL.rp rfl rfl (rp_assign rfl rfl) ?_
 refine AL.nil ?_
 try simp only [thenS, S.put, List.nil_append, List.cons_append]
 refine AW.block ?_
 refine AW.loop (fun s' => ∃ (k : Nat) (L : List (List Nat)), k ≤ q ∧ L = mt (fw sts k) q ∧ s' = ⟨163, [(3, .i q), (4, .own 901 1 q (decide (q = 0))), (10, .i k)], [(901, ⟨82, FM.cells 1000 L, decide (q = 0), 1⟩)] ++ FM.objs 1000 L, []⟩) (fun s' => q - s'.nat 10) ⟨_, ?_, 0, L, by omega, hL0, rfl⟩ ?_
 ·exact (Less.of rfl (by repeat (first | exact trivial | refine ⟨⟨_, rfl, Wk.refl _⟩, ?_⟩ | refine ⟨⟨_, rfl, Wk.nil _ _⟩, ?_⟩ | refine ⟨⟨_, rfl, Wk.junk _⟩, ?_⟩)) (by repeat (first | exact trivial | refine ⟨rfl, ?_⟩ | exact LH.fam | refine LH.skip (by decide) ?_)) rfl)
 clear hL0 hLl
 rintro s' ⟨k, L, hk, hL, rfl⟩
 have hLl : L.length = q := by rw [hL, mt_len]
 by_cases hltk : k < q
 ·have hn0 : 0 < q := by omega
  have hnf : decide (q = 0) = false := by simp; omega
  rw [hnf]
  have hLm := hL.trans (mix_start sts k q).symm
  refine AW.seq ?_
  refine AW.seq ?_
  refine AW.region ?_
  refine AL.rp rfl rfl (rp_move rfl rfl) ?_
  refine AL.rp rfl rfl (rp_move rfl rfl) ?_
  (refine AL.rp rfl rfl (rp_lssT rfl rfl rfl (by first | assumption | omega | (dsimp only; omega))) ?_)
  refine AL.nil ?_
  try simp only [thenS, S.put, List.nil_append, List.cons_append]
  refine AW.condT rfl ?_
  refine AW.skip ?_
  try simp only [thenS, List.nil_append, List.cons_append]
  refine AW.seq ?_
  refine AW.block ?_
  refine AW.seq ?_
  refine AW.region ?_
  refine AL.rp rfl rfl (rp_assign rfl rfl) ?_
  refine AL.nil ?_
  try simp only [thenS, S.put, List.nil_append, List.cons_append]
  refine AW.block ?_
  refine AW.loop (fun s' => ∃ (a : Nat) (L : List (List Nat)), a ≤ q ∧ L = mt (mix sts k a 0) q ∧ s' = ⟨163, [(3, .i q), (4, .own 901 1 q false), (10, .i k), (11, .i a)], [(901, ⟨82, FM.cells 1000 L, false, 1⟩)] ++ FM.objs 1000 L, []⟩) (fun s' => q - s'.nat 11) ⟨_, ?_, 0, L, by omega, hLm, rfl⟩ ?_
  ·exact (Less.of rfl (by repeat (first | exact trivial | refine ⟨⟨_, rfl, Wk.refl _⟩, ?_⟩ | refine ⟨⟨_, rfl, Wk.nil _ _⟩, ?_⟩ | refine ⟨⟨_, rfl, Wk.junk _⟩, ?_⟩)) (by repeat (first | exact trivial | refine ⟨rfl, ?_⟩ | exact LH.fam | refine LH.skip (by decide) ?_)) rfl)
  clear hLm hL hLl
  rintro s' ⟨a, L, ha, hL, rfl⟩
  by_cases hlta : a < q
  ·skip
   refine AW.seq ?_
   refine AW.seq ?_
   refine AW.region ?_
   refine AL.rp rfl rfl (rp_move rfl rfl) ?_
   refine AL.rp rfl rfl (rp_move rfl rfl) ?_
   (refine AL.rp rfl rfl (rp_lssT rfl rfl rfl (by first | assumption | omega | (dsimp only; omega))) ?_)
   refine AL.nil ?_
   try simp only [thenS, S.put, List.nil_append, List.cons_append]
   refine AW.condT rfl ?_
   refine AW.skip ?_
   try simp only [thenS, List.nil_append, List.cons_append]
   refine AW.seq ?_
   refine AW.block ?_
   refine AW.seq ?_
   refine AW.region ?_
   refine AL.rp rfl rfl (rp_assign rfl rfl) ?_
   refine AL.nil ?_
   try simp only [thenS, S.put, List.nil_append, List.cons_append]
   refine AW.block ?_
   refine AW.loop (fun s' => ∃ (b : Nat) (L : List (List Nat)), b ≤ q ∧ L = mt (mix sts k a b) q ∧ s' = ⟨163, [(3, .i q), (4, .own 901 1 q false), (10, .i k), (11, .i a), (12, .i b)], [(901, ⟨82, FM.cells 1000 L, false, 1⟩)] ++ FM.objs 1000 L, []⟩) (fun s' => q - s'.nat 12) ⟨_, ?_, 0, L, by omega, hL, rfl⟩ ?_
   ·exact (Less.of rfl (by repeat (first | exact trivial | refine ⟨⟨_, rfl, Wk.refl _⟩, ?_⟩ | refine ⟨⟨_, rfl, Wk.nil _ _⟩, ?_⟩ | refine ⟨⟨_, rfl, Wk.junk _⟩, ?_⟩)) (by repeat (first | exact trivial | refine ⟨rfl, ?_⟩ | exact LH.fam | refine LH.skip (by decide) ?_)) rfl)
   clear hL
   rintro s' ⟨b, L, hb, hL, rfl⟩
   by_cases hltb : b < q
   ·have hra : L[a]? = some (bl (mix sts k a b a) q) := by rw [hL]; exact mt_get hlta
    have hrk : L[k]? = some (bl (mix sts k a b k) q) := by rw [hL]; exact mt_get hltk
    obtain ⟨ra, hrae⟩ : ∃ r, bl (mix sts k a b a) q = r := ⟨_, rfl⟩
    obtain ⟨rk, hrke⟩ : ∃ r, bl (mix sts k a b k) q = r := ⟨_, rfl⟩
    have hral : ra.length = q := by rw [← hrae, bl_len]
    have hrkl : rk.length = q := by rw [← hrke, bl_len]
    have e1 : mix sts k a b a k = fw sts k a k := by unfold mix; split <;> first | exact hcol k a | rfl
    have e2 : mix sts k a b k b = fw sts k k b := by unfold mix; split <;> first | exact hrow k b | rfl
    have e3 : mix sts k a b a b = fw sts k a b := by unfold mix; rw [if_neg (by omega)]
    have g1 : ra[k]? = some (fw sts k a k) := by rw [← hrae, bl_get hltk, e1]
    have g2 : rk[b]? = some (fw sts k k b) := by rw [← hrke, bl_get hltb, e2]
    have g3 : ra[b]? = some (fw sts k a b) := by rw [← hrae, bl_get hltb, e3]
    have hset := mix_set (sts := sts) (k := k) hlta hltb
    have hsame := mix_same (sts := sts) (k := k) (q0 := a) (p0 := b) (n := q)
    have hupd : fw sts (k + 1) a b = min (fw sts k a b) (fw sts k a k + fw sts k k b) := rfl
    rw [← hL, hrae, hupd] at hset
    rw [← hL, hupd] at hsame
    have l1 := (hok k).le a k
    have l2 := (hok k).le k b
    have l3 := (hok k).le a b
    rw [hrae] at hra
    rw [hrke] at hrk
    clear e1 e2 e3 hrae hrke hL hupd
    generalize fw sts k a k = u at *
    generalize fw sts k k b = v at *
    generalize fw sts k a b = z at *
    have f1 := fm_get g1
    have f2 := fm_get g2
    have f3 := fm_get g3
    have o1 := fm_own (1000 + a) ra hral hn0
    have o2 := fm_own (1000 + k) rk hrkl hn0
    have i1 : a < L.length := (List.getElem?_eq_some_iff.1 hra).1
    have i2 : k < L.length := (List.getElem?_eq_some_iff.1 hrk).1
    by_cases hu : u = big
    ·skip
     refine AW.seq ?_
     refine AW.seq ?_
     refine AW.region ?_
     refine AL.rp rfl rfl (rp_move rfl rfl) ?_
     refine AL.rp rfl rfl (rp_move rfl rfl) ?_
     (refine AL.rp rfl rfl (rp_lssT rfl rfl rfl (by first | assumption | omega | (dsimp only; omega))) ?_)
     refine AL.nil ?_
     try simp only [thenS, S.put, List.nil_append, List.cons_append]
     refine AW.condT rfl ?_
     refine AW.skip ?_
     try simp only [thenS, List.nil_append, List.cons_append]
     refine AW.seq ?_
     refine AW.block ?_
     refine AW.seq ?_
     refine AW.draw [(0, true), (1, true), (2, true), (3, true), (4, true), (5, true), (6, true), (7, true), (8, true), (9, true), (10, true), (11, true), (12, true), (13, true), (14, true), (15, true), (16, true), (17, true), (18, true), (19, true), (20, true), (21, true), (22, true), (23, true), (24, true), (25, true), (26, true), (27, true), (28, true), (29, true), (30, true), (31, true), (32, true), (33, true), (34, true), (35, true), (36, true), (37, true), (38, true), (39, true), (40, true), (41, true), (42, true)] (fun i => !([] : List Nat).contains i) 43 (by kernel_rfl) (by kernel_rfl) rfl (by kernel_rfl) ?_
     refine AD1.rp rfl rfl rfl (fun _ _ h => h) (rp_move rfl rfl) ?_
     refine AD1.rp rfl rfl rfl (fun _ _ h => h) (rp_move rfl rfl) ?_
     refine AD1.rp rfl rfl rfl (fun _ _ h => h) (rp_index_own Try.underlying85 inf82 rfl rfl rfl rfl (by first | assumption | omega)) ?_
     refine AD1.rd rfl rfl rfl (fun _ _ h => h) (rd_load_famE (m := 0) Try.underlying82 rfl rfl rfl rfl rfl rfl (fun _ => rfl) rfl (by assumption) (by assumption)) ?_
     refine AD1.rp rfl rfl rfl (fun _ _ h => h) (rp_move rfl rfl) ?_
     refine AD1.rp rfl rfl rfl (fun _ _ h => h) (rp_index_own Try.underlying82 inf3 rfl rfl rfl rfl (by first | assumption | omega)) ?_
     refine AD1.rd rfl rfl rfl (fun _ _ h => h) (rd_load_fit (F := FM) (lits := [_]) (i := k) (j := 0) Try.underlying3 rfl rfl rfl rfl rfl (by assumption) rfl (by assumption) (fm_rows) rfl) ?_
     (refine AD1.rp rfl rfl rfl (fun _ _ h => h) (rp_neqF rfl rfl rfl (by first | assumption | omega | (dsimp only; omega))) ?_)
     refine AD1.rp rfl rfl rfl (fun _ _ h => h) (rp_move rfl rfl) ?_
     refine AD1.noV rfl rfl rfl rfl rfl (fun _ _ h => h) ?_
     refine AD1.noV rfl rfl rfl rfl rfl (fun _ _ h => h) ?_
     refine AD1.noV rfl rfl rfl rfl rfl (fun _ _ h => h) ?_
     refine AD1.noV rfl rfl rfl rfl rfl (fun _ _ h => h) ?_
     refine AD1.noV rfl rfl rfl rfl rfl (fun _ _ h => h) ?_
     refine AD1.noV rfl rfl rfl rfl rfl (fun _ _ h => h) ?_
     refine AD1.noV rfl rfl rfl rfl rfl (fun _ _ h => h) ?_
     refine AD1.noV rfl rfl rfl rfl rfl (fun _ _ h => h) ?_
     refine AD1.rp rfl rfl rfl (fun _ _ h => h) (rp_pick rfl rfl rfl) ?_
     refine AD1.rp rfl rfl rfl (fun _ _ h => h) (rp_move rfl rfl) ?_
     refine AD1.noV rfl rfl rfl rfl rfl (fun _ _ h => h) ?_
     refine AD1.noV rfl rfl rfl rfl rfl (fun _ _ h => h) ?_
     refine AD1.noV rfl rfl rfl rfl rfl (fun _ _ h => h) ?_
     refine AD1.noV rfl rfl rfl rfl rfl (fun _ _ h => h) ?_
     refine AD1.noV rfl rfl rfl rfl rfl (fun _ _ h => h) ?_
     refine AD1.noV rfl rfl rfl rfl rfl (fun _ _ h => h) ?_
     refine AD1.noV rfl rfl rfl rfl rfl (fun _ _ h => h) ?_
     refine AD1.noV rfl rfl rfl rfl rfl (fun _ _ h => h) ?_
     refine AD1.noV rfl rfl rfl rfl rfl (fun _ _ h => h) ?_
     refine AD1.noV rfl rfl rfl rfl rfl (fun _ _ h => h) ?_
     refine AD1.noV rfl rfl rfl rfl rfl (fun _ _ h => h) ?_
     refine AD1.noV rfl rfl rfl rfl rfl (fun _ _ h => h) ?_
     refine AD1.noV rfl rfl rfl rfl rfl (fun _ _ h => h) ?_
     refine AD1.noV rfl rfl rfl rfl rfl (fun _ _ h => h) ?_
     refine AD1.noV rfl rfl rfl rfl rfl (fun _ _ h => h) ?_
     refine AD1.noV rfl rfl rfl rfl rfl (fun _ _ h => h) ?_
     refine AD1.noV rfl rfl rfl rfl rfl (fun _ _ h => h) ?_
     refine AD1.noV rfl rfl rfl rfl rfl (fun _ _ h => h) ?_
     refine AD1.noV rfl rfl rfl rfl rfl (fun _ _ h => h) ?_
     refine AD1.noV rfl rfl rfl rfl rfl (fun _ _ h => h) ?_
     refine AD1.noV rfl rfl rfl rfl rfl (fun _ _ h => h) ?_
     refine AD1.noV rfl rfl rfl rfl rfl (fun _ _ h => h) ?_
     refine AD1.noV rfl rfl rfl rfl rfl (fun _ _ h => h) ?_
     refine AD1.rp rfl rfl rfl (fun _ _ h => h) (rp_pick rfl rfl rfl) ?_
     refine AD1.nil ?_
     try simp only [thenS, S.put, List.nil_append, List.cons_append]
     refine AW.condF rfl ?_
     refine AW.skip ?_
     try simp only [thenS, List.nil_append, List.cons_append]
     refine AW.region ?_
     refine AL.rp rfl rfl (rp_move rfl rfl) ?_
     refine AL.rp rfl rfl (rp_add rfl rfl rfl (by first | omega | (dsimp only; omega))) ?_
     refine AL.rp rfl rfl (rp_assign rfl rfl) ?_
     refine AL.nil ?_
     try simp only [thenS, S.put, List.nil_append, List.cons_append]
     refine ⟨_, ?_, ⟨b + 1, L, by omega, (hsame (by omega)).symm, rfl⟩, ?_⟩
     ·exact (Less.of rfl (by repeat (first | exact trivial | refine ⟨⟨_, rfl, Wk.refl _⟩, ?_⟩ | refine ⟨⟨_, rfl, Wk.nil _ _⟩, ?_⟩ | refine ⟨⟨_, rfl, Wk.junk _⟩, ?_⟩)) (by repeat (first | exact trivial | refine ⟨rfl, ?_⟩ | exact LH.fam | refine LH.skip (by decide) ?_)) rfl)
     ·simp [S.nat, fnd]; omega
    by_cases hv : v = big
    ·skip
     refine AW.seq ?_
     refine AW.seq ?_
     refine AW.region ?_
     refine AL.rp rfl rfl (rp_move rfl rfl) ?_
     refine AL.rp rfl rfl (rp_move rfl rfl) ?_
     (refine AL.rp rfl rfl (rp_lssT rfl rfl rfl (by first | assumption | omega | (dsimp only; omega))) ?_)
     refine AL.nil ?_
     try simp only [thenS, S.put, List.nil_append, List.cons_append]
     refine AW.condT rfl ?_
     refine AW.skip ?_
     try simp only [thenS, List.nil_append, List.cons_append]
     refine AW.seq ?_
     refine AW.block ?_
     refine AW.seq ?_
     refine AW.draw [(0, true), (1, true), (2, true), (3, true), (4, true), (5, true), (6, true), (7, true), (8, true), (9, true), (10, true), (11, true), (12, true), (13, true), (14, true), (15, true), (16, true), (17, true), (18, true), (19, true), (20, true), (21, true), (22, true), (23, true), (24, true), (25, true), (26, true), (27, true), (28, true), (29, true), (30, true), (31, true), (32, true), (33, true), (34, true), (35, true), (36, true), (37, true), (38, true), (39, true), (40, true), (41, true), (42, true)] (fun i => !([] : List Nat).contains i) 43 (by kernel_rfl) (by kernel_rfl) rfl (by kernel_rfl) ?_
     refine AD1.rp rfl rfl rfl (fun _ _ h => h) (rp_move rfl rfl) ?_
     refine AD1.rp rfl rfl rfl (fun _ _ h => h) (rp_move rfl rfl) ?_
     refine AD1.rp rfl rfl rfl (fun _ _ h => h) (rp_index_own Try.underlying85 inf82 rfl rfl rfl rfl (by first | assumption | omega)) ?_
     refine AD1.rd rfl rfl rfl (fun _ _ h => h) (rd_load_famE (m := 0) Try.underlying82 rfl rfl rfl rfl rfl rfl (fun _ => rfl) rfl (by assumption) (by assumption)) ?_
     refine AD1.rp rfl rfl rfl (fun _ _ h => h) (rp_move rfl rfl) ?_
     refine AD1.rp rfl rfl rfl (fun _ _ h => h) (rp_index_own Try.underlying82 inf3 rfl rfl rfl rfl (by first | assumption | omega)) ?_
     refine AD1.rd rfl rfl rfl (fun _ _ h => h) (rd_load_fit (F := FM) (lits := [_]) (i := k) (j := 0) Try.underlying3 rfl rfl rfl rfl rfl (by assumption) rfl (by assumption) (fm_rows) rfl) ?_
     (refine AD1.rp rfl rfl rfl (fun _ _ h => h) (rp_neqT rfl rfl rfl (by first | assumption | omega | (dsimp only; omega))) ?_)
     refine AD1.rp rfl rfl rfl (fun _ _ h => h) (rp_move rfl rfl) ?_
     refine AD1.rpy rfl rfl rfl rfl (fun _ _ h => h) (rp_move rfl rfl) ?_
     refine AD1.rpy rfl rfl rfl rfl (fun _ _ h => h) (rp_move rfl rfl) ?_
     refine AD1.rpy rfl rfl rfl rfl (fun _ _ h => h) (rp_index_own Try.underlying85 inf82 rfl rfl rfl rfl (by first | assumption | omega)) ?_
     refine AD1.rdy rfl rfl rfl rfl (fun _ _ h => h) (rd_load_famE (m := 0) Try.underlying82 rfl rfl rfl rfl rfl rfl (fun _ => rfl) rfl (by assumption) (by assumption)) ?_
     refine AD1.rpy rfl rfl rfl rfl (fun _ _ h => h) (rp_move rfl rfl) ?_
     refine AD1.rpy rfl rfl rfl rfl (fun _ _ h => h) (rp_index_own Try.underlying82 inf3 rfl rfl rfl rfl (by first | assumption | omega)) ?_
     refine AD1.rdy rfl rfl rfl rfl (fun _ _ h => h) (rd_load_fit (F := FM) (lits := [_]) (i := b) (j := 0) Try.underlying3 rfl rfl rfl rfl rfl (by assumption) rfl (by assumption) (fm_rows) rfl) ?_
     (refine AD1.rpy rfl rfl rfl rfl (fun _ _ h => h) (rp_neqF rfl rfl rfl (by first | assumption | omega | (dsimp only; omega))) ?_)
     refine AD1.rp rfl rfl rfl (fun _ _ h => h) (rp_pick rfl rfl rfl) ?_
     refine AD1.rp rfl rfl rfl (fun _ _ h => h) (rp_move rfl rfl) ?_
     refine AD1.noV rfl rfl rfl rfl rfl (fun _ _ h => h) ?_
     refine AD1.noV rfl rfl rfl rfl rfl (fun _ _ h => h) ?_
     refine AD1.noV rfl rfl rfl rfl rfl (fun _ _ h => h) ?_
     refine AD1.noV rfl rfl rfl rfl rfl (fun _ _ h => h) ?_
     refine AD1.noV rfl rfl rfl rfl rfl (fun _ _ h => h) ?_
     refine AD1.noV rfl rfl rfl rfl rfl (fun _ _ h => h) ?_
     refine AD1.noV rfl rfl rfl rfl rfl (fun _ _ h => h) ?_
     refine AD1.noV rfl rfl rfl rfl rfl (fun _ _ h => h) ?_
     refine AD1.noV rfl rfl rfl rfl rfl (fun _ _ h => h) ?_
     refine AD1.noV rfl rfl rfl rfl rfl (fun _ _ h => h) ?_
     refine AD1.noV rfl rfl rfl rfl rfl (fun _ _ h => h) ?_
     refine AD1.noV rfl rfl rfl rfl rfl (fun _ _ h => h) ?_
     refine AD1.noV rfl rfl rfl rfl rfl (fun _ _ h => h) ?_
     refine AD1.noV rfl rfl rfl rfl rfl (fun _ _ h => h) ?_
     refine AD1.noV rfl rfl rfl rfl rfl (fun _ _ h => h) ?_
     refine AD1.noV rfl rfl rfl rfl rfl (fun _ _ h => h) ?_
     refine AD1.noV rfl rfl rfl rfl rfl (fun _ _ h => h) ?_
     refine AD1.noV rfl rfl rfl rfl rfl (fun _ _ h => h) ?_
     refine AD1.noV rfl rfl rfl rfl rfl (fun _ _ h => h) ?_
     refine AD1.noV rfl rfl rfl rfl rfl (fun _ _ h => h) ?_
     refine AD1.noV rfl rfl rfl rfl rfl (fun _ _ h => h) ?_
     refine AD1.noV rfl rfl rfl rfl rfl (fun _ _ h => h) ?_
     refine AD1.noV rfl rfl rfl rfl rfl (fun _ _ h => h) ?_
     refine AD1.rp rfl rfl rfl (fun _ _ h => h) (rp_pick rfl rfl rfl) ?_
     refine AD1.nil ?_
     try simp only [thenS, S.put, List.nil_append, List.cons_append]
     refine AW.condF rfl ?_
     refine AW.skip ?_
     try simp only [thenS, List.nil_append, List.cons_append]
     refine AW.region ?_
     refine AL.rp rfl rfl (rp_move rfl rfl) ?_
     refine AL.rp rfl rfl (rp_add rfl rfl rfl (by first | omega | (dsimp only; omega))) ?_
     refine AL.rp rfl rfl (rp_assign rfl rfl) ?_
     refine AL.nil ?_
     try simp only [thenS, S.put, List.nil_append, List.cons_append]
     refine ⟨_, ?_, ⟨b + 1, L, by omega, (hsame (by omega)).symm, rfl⟩, ?_⟩
     ·exact (Less.of rfl (by repeat (first | exact trivial | refine ⟨⟨_, rfl, Wk.refl _⟩, ?_⟩ | refine ⟨⟨_, rfl, Wk.nil _ _⟩, ?_⟩ | refine ⟨⟨_, rfl, Wk.junk _⟩, ?_⟩)) (by repeat (first | exact trivial | refine ⟨rfl, ?_⟩ | exact LH.fam | refine LH.skip (by decide) ?_)) rfl)
     ·simp [S.nat, fnd]; omega
    by_cases hc : u + v < z
    ·rw [Nat.min_eq_right (by omega)] at hset
     clear hsame
     refine AW.seq ?_
     refine AW.seq ?_
     refine AW.region ?_
     refine AL.rp rfl rfl (rp_move rfl rfl) ?_
     refine AL.rp rfl rfl (rp_move rfl rfl) ?_
     (refine AL.rp rfl rfl (rp_lssT rfl rfl rfl (by first | assumption | omega | (dsimp only; omega))) ?_)
     refine AL.nil ?_
     try simp only [thenS, S.put, List.nil_append, List.cons_append]
     refine AW.condT rfl ?_
     refine AW.skip ?_
     try simp only [thenS, List.nil_append, List.cons_append]
     refine AW.seq ?_
     refine AW.block ?_
     refine AW.seq ?_
     refine AW.draw [(0, true), (1, true), (2, true), (3, true), (4, true), (5, true), (6, true), (7, true), (8, true), (9, true), (10, true), (11, true), (12, true), (13, true), (14, true), (15, true), (16, true), (17, true), (18, true), (19, true), (20, true), (21, true), (22, true), (23, true), (24, true), (25, true), (26, true), (27, true), (28, true), (29, true), (30, true), (31, true), (32, true), (33, true), (34, true), (35, true), (36, true), (37, true), (38, true), (39, true), (40, true), (41, true), (42, true)] (fun i => !([] : List Nat).contains i) 43 (by kernel_rfl) (by kernel_rfl) rfl (by kernel_rfl) ?_
     refine AD1.rp rfl rfl rfl (fun _ _ h => h) (rp_move rfl rfl) ?_
     refine AD1.rp rfl rfl rfl (fun _ _ h => h) (rp_move rfl rfl) ?_
     refine AD1.rp rfl rfl rfl (fun _ _ h => h) (rp_index_own Try.underlying85 inf82 rfl rfl rfl rfl (by first | assumption | omega)) ?_
     refine AD1.rd rfl rfl rfl (fun _ _ h => h) (rd_load_famE (m := 0) Try.underlying82 rfl rfl rfl rfl rfl rfl (fun _ => rfl) rfl (by assumption) (by assumption)) ?_
     refine AD1.rp rfl rfl rfl (fun _ _ h => h) (rp_move rfl rfl) ?_
     refine AD1.rp rfl rfl rfl (fun _ _ h => h) (rp_index_own Try.underlying82 inf3 rfl rfl rfl rfl (by first | assumption | omega)) ?_
     refine AD1.rd rfl rfl rfl (fun _ _ h => h) (rd_load_fit (F := FM) (lits := [_]) (i := k) (j := 0) Try.underlying3 rfl rfl rfl rfl rfl (by assumption) rfl (by assumption) (fm_rows) rfl) ?_
     (refine AD1.rp rfl rfl rfl (fun _ _ h => h) (rp_neqT rfl rfl rfl (by first | assumption | omega | (dsimp only; omega))) ?_)
     refine AD1.rp rfl rfl rfl (fun _ _ h => h) (rp_move rfl rfl) ?_
     refine AD1.rpy rfl rfl rfl rfl (fun _ _ h => h) (rp_move rfl rfl) ?_
     refine AD1.rpy rfl rfl rfl rfl (fun _ _ h => h) (rp_move rfl rfl) ?_
     refine AD1.rpy rfl rfl rfl rfl (fun _ _ h => h) (rp_index_own Try.underlying85 inf82 rfl rfl rfl rfl (by first | assumption | omega)) ?_
     refine AD1.rdy rfl rfl rfl rfl (fun _ _ h => h) (rd_load_famE (m := 0) Try.underlying82 rfl rfl rfl rfl rfl rfl (fun _ => rfl) rfl (by assumption) (by assumption)) ?_
     refine AD1.rpy rfl rfl rfl rfl (fun _ _ h => h) (rp_move rfl rfl) ?_
     refine AD1.rpy rfl rfl rfl rfl (fun _ _ h => h) (rp_index_own Try.underlying82 inf3 rfl rfl rfl rfl (by first | assumption | omega)) ?_
     refine AD1.rdy rfl rfl rfl rfl (fun _ _ h => h) (rd_load_fit (F := FM) (lits := [_]) (i := b) (j := 0) Try.underlying3 rfl rfl rfl rfl rfl (by assumption) rfl (by assumption) (fm_rows) rfl) ?_
     (refine AD1.rpy rfl rfl rfl rfl (fun _ _ h => h) (rp_neqT rfl rfl rfl (by first | assumption | omega | (dsimp only; omega))) ?_)
     refine AD1.rp rfl rfl rfl (fun _ _ h => h) (rp_pick rfl rfl rfl) ?_
     refine AD1.rp rfl rfl rfl (fun _ _ h => h) (rp_move rfl rfl) ?_
     refine AD1.rpy rfl rfl rfl rfl (fun _ _ h => h) (rp_move rfl rfl) ?_
     refine AD1.rpy rfl rfl rfl rfl (fun _ _ h => h) (rp_move rfl rfl) ?_
     refine AD1.rpy rfl rfl rfl rfl (fun _ _ h => h) (rp_index_own Try.underlying85 inf82 rfl rfl rfl rfl (by first | assumption | omega)) ?_
     refine AD1.rdy rfl rfl rfl rfl (fun _ _ h => h) (rd_load_famE (m := 0) Try.underlying82 rfl rfl rfl rfl rfl rfl (fun _ => rfl) rfl (by assumption) (by assumption)) ?_
     refine AD1.rpy rfl rfl rfl rfl (fun _ _ h => h) (rp_move rfl rfl) ?_
     refine AD1.rpy rfl rfl rfl rfl (fun _ _ h => h) (rp_index_own Try.underlying82 inf3 rfl rfl rfl rfl (by first | assumption | omega)) ?_
     refine AD1.rdy rfl rfl rfl rfl (fun _ _ h => h) (rd_load_fit (F := FM) (lits := [_]) (i := k) (j := 0) Try.underlying3 rfl rfl rfl rfl rfl (by assumption) rfl (by assumption) (fm_rows) rfl) ?_
     refine AD1.rpy rfl rfl rfl rfl (fun _ _ h => h) (rp_move rfl rfl) ?_
     refine AD1.rpy rfl rfl rfl rfl (fun _ _ h => h) (rp_move rfl rfl) ?_
     refine AD1.rpy rfl rfl rfl rfl (fun _ _ h => h) (rp_index_own Try.underlying85 inf82 rfl rfl rfl rfl (by first | assumption | omega)) ?_
     refine AD1.rdy rfl rfl rfl rfl (fun _ _ h => h) (rd_load_famE (m := 0) Try.underlying82 rfl rfl rfl rfl rfl rfl (fun _ => rfl) rfl (by assumption) (by assumption)) ?_
     refine AD1.rpy rfl rfl rfl rfl (fun _ _ h => h) (rp_move rfl rfl) ?_
     refine AD1.rpy rfl rfl rfl rfl (fun _ _ h => h) (rp_index_own Try.underlying82 inf3 rfl rfl rfl rfl (by first | assumption | omega)) ?_
     refine AD1.rdy rfl rfl rfl rfl (fun _ _ h => h) (rd_load_fit (F := FM) (lits := [_]) (i := b) (j := 0) Try.underlying3 rfl rfl rfl rfl rfl (by assumption) rfl (by assumption) (fm_rows) rfl) ?_
     (refine AD1.rpy rfl rfl rfl rfl (fun _ _ h => h) (rp_add rfl rfl rfl (by first | omega | (dsimp only; omega))) ?_)
     refine AD1.rpy rfl rfl rfl rfl (fun _ _ h => h) (rp_move rfl rfl) ?_
     refine AD1.rpy rfl rfl rfl rfl (fun _ _ h => h) (rp_move rfl rfl) ?_
     refine AD1.rpy rfl rfl rfl rfl (fun _ _ h => h) (rp_index_own Try.underlying85 inf82 rfl rfl rfl rfl (by first | assumption | omega)) ?_
     refine AD1.rdy rfl rfl rfl rfl (fun _ _ h => h) (rd_load_famE (m := 0) Try.underlying82 rfl rfl rfl rfl rfl rfl (fun _ => rfl) rfl (by assumption) (by assumption)) ?_
     refine AD1.rpy rfl rfl rfl rfl (fun _ _ h => h) (rp_move rfl rfl) ?_
     refine AD1.rpy rfl rfl rfl rfl (fun _ _ h => h) (rp_index_own Try.underlying82 inf3 rfl rfl rfl rfl (by first | assumption | omega)) ?_
     refine AD1.rdy rfl rfl rfl rfl (fun _ _ h => h) (rd_load_fit (F := FM) (lits := [_]) (i := b) (j := 0) Try.underlying3 rfl rfl rfl rfl rfl (by assumption) rfl (by assumption) (fm_rows) rfl) ?_
     (refine AD1.rpy rfl rfl rfl rfl (fun _ _ h => h) (rp_lssT rfl rfl rfl (by first | assumption | omega | (dsimp only; omega))) ?_)
     refine AD1.rp rfl rfl rfl (fun _ _ h => h) (rp_pick rfl rfl rfl) ?_
     refine AD1.nil ?_
     try simp only [thenS, S.put, List.nil_append, List.cons_append]
     refine AW.condT rfl ?_
     refine AW.draw [(0, true), (1, true), (2, true), (3, true), (4, true), (5, true), (6, true), (7, true), (8, true), (9, true), (10, true), (11, true), (12, true), (13, true), (14, true), (15, true), (16, true), (17, true), (18, true), (19, true), (20, true), (21, false)] (fun i => !([21] : List Nat).contains i) 22 (by kernel_rfl) (by kernel_rfl) rfl (by kernel_rfl) ?_
     refine AD1.rp rfl rfl rfl (fun _ _ h => h) (rp_move rfl rfl) ?_
     refine AD1.rp rfl rfl rfl (fun _ _ h => h) (rp_move rfl rfl) ?_
     refine AD1.rp rfl rfl rfl (fun _ _ h => h) (rp_index_own Try.underlying85 inf82 rfl rfl rfl rfl (by first | assumption | omega)) ?_
     refine AD1.rd rfl rfl rfl (fun _ _ h => h) (rd_load_famE (m := 0) Try.underlying82 rfl rfl rfl rfl rfl rfl (fun _ => rfl) rfl (by assumption) (by assumption)) ?_
     refine AD1.rp rfl rfl rfl (fun _ _ h => h) (rp_move rfl rfl) ?_
     refine AD1.rp rfl rfl rfl (fun _ _ h => h) (rp_move rfl rfl) ?_
     refine AD1.rp rfl rfl rfl (fun _ _ h => h) (rp_move rfl rfl) ?_
     refine AD1.rp rfl rfl rfl (fun _ _ h => h) (rp_index_own Try.underlying85 inf82 rfl rfl rfl rfl (by first | assumption | omega)) ?_
     refine AD1.rd rfl rfl rfl (fun _ _ h => h) (rd_load_famE (m := 0) Try.underlying82 rfl rfl rfl rfl rfl rfl (fun _ => rfl) rfl (by assumption) (by assumption)) ?_
     refine AD1.rp rfl rfl rfl (fun _ _ h => h) (rp_move rfl rfl) ?_
     refine AD1.rp rfl rfl rfl (fun _ _ h => h) (rp_index_own Try.underlying82 inf3 rfl rfl rfl rfl (by first | assumption | omega)) ?_
     refine AD1.rd rfl rfl rfl (fun _ _ h => h) (rd_load_fit (F := FM) (lits := [_]) (i := k) (j := 0) Try.underlying3 rfl rfl rfl rfl rfl (by assumption) rfl (by assumption) (fm_rows) rfl) ?_
     refine AD1.rp rfl rfl rfl (fun _ _ h => h) (rp_move rfl rfl) ?_
     refine AD1.rp rfl rfl rfl (fun _ _ h => h) (rp_move rfl rfl) ?_
     refine AD1.rp rfl rfl rfl (fun _ _ h => h) (rp_index_own Try.underlying85 inf82 rfl rfl rfl rfl (by first | assumption | omega)) ?_
     refine AD1.rd rfl rfl rfl (fun _ _ h => h) (rd_load_famE (m := 0) Try.underlying82 rfl rfl rfl rfl rfl rfl (fun _ => rfl) rfl (by assumption) (by assumption)) ?_
     refine AD1.rp rfl rfl rfl (fun _ _ h => h) (rp_move rfl rfl) ?_
     refine AD1.rp rfl rfl rfl (fun _ _ h => h) (rp_index_own Try.underlying82 inf3 rfl rfl rfl rfl (by first | assumption | omega)) ?_
     refine AD1.rd rfl rfl rfl (fun _ _ h => h) (rd_load_fit (F := FM) (lits := [_]) (i := b) (j := 0) Try.underlying3 rfl rfl rfl rfl rfl (by assumption) rfl (by assumption) (fm_rows) rfl) ?_
     refine AD1.rp rfl rfl rfl (fun _ _ h => h) (rp_addZ (((u + v : Nat) : Int)) rfl rfl rfl (by omega) (by omega)) ?_
     refine AD1.rp rfl rfl rfl (fun _ _ h => h) (rp_index_own Try.underlying82 inf3 rfl rfl rfl rfl (by first | assumption | omega)) ?_
     refine AD1.go ?_
     refine AD2.go ?_
     refine AD3.st rfl rfl rfl (st_store_fit (F := FM) (lits := [_]) (x0 := ra) (rb := 901) (i := b) (j := 0) (ra.set b (u + v)) inf3 rfl rfl rfl rfl rfl rfl rfl rfl (by assumption) rfl (by assumption) (by decide) (fm_rows) rfl rfl (by rw [fm_it_set]; rfl)) ?_
     try simp only [S.put, S.newObj, List.map_cons, List.map_nil, junkHi, V.low, V.lowL, low_ownV, Nat.reduceLT, decide_true, decide_false, Bool.and_true, Bool.true_and, if_true, if_false, Bool.false_eq_true, ite_true, ite_false, ↓reduceIte, List.cons_append, List.nil_append]
     refine AD3.nil ?_
     try simp only [thenS, S.put, S.newObj, setL, V.cs, List.length_cons, List.length_nil, List.take_succ_cons, List.take_zero, List.drop_succ_cons, List.drop_zero, List.drop_nil, List.nil_append, List.cons_append, List.append_nil, Nat.zero_add, Nat.reduceAdd, List.map_cons, List.map_nil, List.set_cons_zero, List.set_cons_succ]
     refine AW.region ?_
     refine AL.rp rfl rfl (rp_move rfl rfl) ?_
     refine AL.rp rfl rfl (rp_add rfl rfl rfl (by first | omega | (dsimp only; omega))) ?_
     refine AL.rp rfl rfl (rp_assign rfl rfl) ?_
     refine AL.nil ?_
     try simp only [thenS, S.put, List.nil_append, List.cons_append]
     refine ⟨_, ?_, ⟨b + 1, _, by omega, hset, rfl⟩, ?_⟩
     ·exact (Less.of rfl (by repeat (first | exact trivial | refine ⟨⟨_, rfl, Wk.refl _⟩, ?_⟩ | refine ⟨⟨_, rfl, Wk.nil _ _⟩, ?_⟩ | refine ⟨⟨_, rfl, Wk.junk _⟩, ?_⟩)) (by repeat (first | exact trivial | refine ⟨rfl, ?_⟩ | exact LH.fam | refine LH.skip (by decide) ?_)) rfl)
     ·simp [S.nat, fnd]; omega
    ·skip
     refine AW.seq ?_
     refine AW.seq ?_
     refine AW.region ?_
     refine AL.rp rfl rfl (rp_move rfl rfl) ?_
     refine AL.rp rfl rfl (rp_move rfl rfl) ?_
     (refine AL.rp rfl rfl (rp_lssT rfl rfl rfl (by first | assumption | omega | (dsimp only; omega))) ?_)
     refine AL.nil ?_
     try simp only [thenS, S.put, List.nil_append, List.cons_append]
     refine AW.condT rfl ?_
     refine AW.skip ?_
     try simp only [thenS, List.nil_append, List.cons_append]
     refine AW.seq ?_
     refine AW.block ?_
     refine AW.seq ?_
     refine AW.draw [(0, true), (1, true), (2, true), (3, true), (4, true), (5, true), (6, true), (7, true), (8, true), (9, true), (10, true), (11, true), (12, true), (13, true), (14, true), (15, true), (16, true), (17, true), (18, true), (19, true), (20, true), (21, true), (22, true), (23, true), (24, true), (25, true), (26, true), (27, true), (28, true), (29, true), (30, true), (31, true), (32, true), (33, true), (34, true), (35, true), (36, true), (37, true), (38, true), (39, true), (40, true), (41, true), (42, true)] (fun i => !([] : List Nat).contains i) 43 (by kernel_rfl) (by kernel_rfl) rfl (by kernel_rfl) ?_
     refine AD1.rp rfl rfl rfl (fun _ _ h => h) (rp_move rfl rfl) ?_
     refine AD1.rp rfl rfl rfl (fun _ _ h => h) (rp_move rfl rfl) ?_
     refine AD1.rp rfl rfl rfl (fun _ _ h => h) (rp_index_own Try.underlying85 inf82 rfl rfl rfl rfl (by first | assumption | omega)) ?_
     refine AD1.rd rfl rfl rfl (fun _ _ h => h) (rd_load_famE (m := 0) Try.underlying82 rfl rfl rfl rfl rfl rfl (fun _ => rfl) rfl (by assumption) (by assumption)) ?_
     refine AD1.rp rfl rfl rfl (fun _ _ h => h) (rp_move rfl rfl) ?_
     refine AD1.rp rfl rfl rfl (fun _ _ h => h) (rp_index_own Try.underlying82 inf3 rfl rfl rfl rfl (by first | assumption | omega)) ?_
     refine AD1.rd rfl rfl rfl (fun _ _ h => h) (rd_load_fit (F := FM) (lits := [_]) (i := k) (j := 0) Try.underlying3 rfl rfl rfl rfl rfl (by assumption) rfl (by assumption) (fm_rows) rfl) ?_
     (refine AD1.rp rfl rfl rfl (fun _ _ h => h) (rp_neqT rfl rfl rfl (by first | assumption | omega | (dsimp only; omega))) ?_)
     refine AD1.rp rfl rfl rfl (fun _ _ h => h) (rp_move rfl rfl) ?_
     refine AD1.rpy rfl rfl rfl rfl (fun _ _ h => h) (rp_move rfl rfl) ?_
     refine AD1.rpy rfl rfl rfl rfl (fun _ _ h => h) (rp_move rfl rfl) ?_
     refine AD1.rpy rfl rfl rfl rfl (fun _ _ h => h) (rp_index_own Try.underlying85 inf82 rfl rfl rfl rfl (by first | assumption | omega)) ?_
     refine AD1.rdy rfl rfl rfl rfl (fun _ _ h => h) (rd_load_famE (m := 0) Try.underlying82 rfl rfl rfl rfl rfl rfl (fun _ => rfl) rfl (by assumption) (by assumption)) ?_
     refine AD1.rpy rfl rfl rfl rfl (fun _ _ h => h) (rp_move rfl rfl) ?_
     refine AD1.rpy rfl rfl rfl rfl (fun _ _ h => h) (rp_index_own Try.underlying82 inf3 rfl rfl rfl rfl (by first | assumption | omega)) ?_
     refine AD1.rdy rfl rfl rfl rfl (fun _ _ h => h) (rd_load_fit (F := FM) (lits := [_]) (i := b) (j := 0) Try.underlying3 rfl rfl rfl rfl rfl (by assumption) rfl (by assumption) (fm_rows) rfl) ?_
     (refine AD1.rpy rfl rfl rfl rfl (fun _ _ h => h) (rp_neqT rfl rfl rfl (by first | assumption | omega | (dsimp only; omega))) ?_)
     refine AD1.rp rfl rfl rfl (fun _ _ h => h) (rp_pick rfl rfl rfl) ?_
     refine AD1.rp rfl rfl rfl (fun _ _ h => h) (rp_move rfl rfl) ?_
     refine AD1.rpy rfl rfl rfl rfl (fun _ _ h => h) (rp_move rfl rfl) ?_
     refine AD1.rpy rfl rfl rfl rfl (fun _ _ h => h) (rp_move rfl rfl) ?_
     refine AD1.rpy rfl rfl rfl rfl (fun _ _ h => h) (rp_index_own Try.underlying85 inf82 rfl rfl rfl rfl (by first | assumption | omega)) ?_
     refine AD1.rdy rfl rfl rfl rfl (fun _ _ h => h) (rd_load_famE (m := 0) Try.underlying82 rfl rfl rfl rfl rfl rfl (fun _ => rfl) rfl (by assumption) (by assumption)) ?_
     refine AD1.rpy rfl rfl rfl rfl (fun _ _ h => h) (rp_move rfl rfl) ?_
     refine AD1.rpy rfl rfl rfl rfl (fun _ _ h => h) (rp_index_own Try.underlying82 inf3 rfl rfl rfl rfl (by first | assumption | omega)) ?_
     refine AD1.rdy rfl rfl rfl rfl (fun _ _ h => h) (rd_load_fit (F := FM) (lits := [_]) (i := k) (j := 0) Try.underlying3 rfl rfl rfl rfl rfl (by assumption) rfl (by assumption) (fm_rows) rfl) ?_
     refine AD1.rpy rfl rfl rfl rfl (fun _ _ h => h) (rp_move rfl rfl) ?_
     refine AD1.rpy rfl rfl rfl rfl (fun _ _ h => h) (rp_move rfl rfl) ?_
     refine AD1.rpy rfl rfl rfl rfl (fun _ _ h => h) (rp_index_own Try.underlying85 inf82 rfl rfl rfl rfl (by first | assumption | omega)) ?_
     refine AD1.rdy rfl rfl rfl rfl (fun _ _ h => h) (rd_load_famE (m := 0) Try.underlying82 rfl rfl rfl rfl rfl rfl (fun _ => rfl) rfl (by assumption) (by assumption)) ?_
     refine AD1.rpy rfl rfl rfl rfl (fun _ _ h => h) (rp_move rfl rfl) ?_
     refine AD1.rpy rfl rfl rfl rfl (fun _ _ h => h) (rp_index_own Try.underlying82 inf3 rfl rfl rfl rfl (by first | assumption | omega)) ?_
     refine AD1.rdy rfl rfl rfl rfl (fun _ _ h => h) (rd_load_fit (F := FM) (lits := [_]) (i := b) (j := 0) Try.underlying3 rfl rfl rfl rfl rfl (by assumption) rfl (by assumption) (fm_rows) rfl) ?_
     (refine AD1.rpy rfl rfl rfl rfl (fun _ _ h => h) (rp_add rfl rfl rfl (by first | omega | (dsimp only; omega))) ?_)
     refine AD1.rpy rfl rfl rfl rfl (fun _ _ h => h) (rp_move rfl rfl) ?_
     refine AD1.rpy rfl rfl rfl rfl (fun _ _ h => h) (rp_move rfl rfl) ?_
     refine AD1.rpy rfl rfl rfl rfl (fun _ _ h => h) (rp_index_own Try.underlying85 inf82 rfl rfl rfl rfl (by first | assumption | omega)) ?_
     refine AD1.rdy rfl rfl rfl rfl (fun _ _ h => h) (rd_load_famE (m := 0) Try.underlying82 rfl rfl rfl rfl rfl rfl (fun _ => rfl) rfl (by assumption) (by assumption)) ?_
     refine AD1.rpy rfl rfl rfl rfl (fun _ _ h => h) (rp_move rfl rfl) ?_
     refine AD1.rpy rfl rfl rfl rfl (fun _ _ h => h) (rp_index_own Try.underlying82 inf3 rfl rfl rfl rfl (by first | assumption | omega)) ?_
     refine AD1.rdy rfl rfl rfl rfl (fun _ _ h => h) (rd_load_fit (F := FM) (lits := [_]) (i := b) (j := 0) Try.underlying3 rfl rfl rfl rfl rfl (by assumption) rfl (by assumption) (fm_rows) rfl) ?_
     (refine AD1.rpy rfl rfl rfl rfl (fun _ _ h => h) (rp_lssF rfl rfl rfl (by first | assumption | omega | (dsimp only; omega))) ?_)
     refine AD1.rp rfl rfl rfl (fun _ _ h => h) (rp_pick rfl rfl rfl) ?_
     refine AD1.nil ?_
     try simp only [thenS, S.put, List.nil_append, List.cons_append]
     refine AW.condF rfl ?_
     refine AW.skip ?_
     try simp only [thenS, List.nil_append, List.cons_append]
     refine AW.region ?_
     refine AL.rp rfl rfl (rp_move rfl rfl) ?_
     refine AL.rp rfl rfl (rp_add rfl rfl rfl (by first | omega | (dsimp only; omega))) ?_
     refine AL.rp rfl rfl (rp_assign rfl rfl) ?_
     refine AL.nil ?_
     try simp only [thenS, S.put, List.nil_append, List.cons_append]
     refine ⟨_, ?_, ⟨b + 1, L, by omega, (hsame (by omega)).symm, rfl⟩, ?_⟩
     ·exact (Less.of rfl (by repeat (first | exact trivial | refine ⟨⟨_, rfl, Wk.refl _⟩, ?_⟩ | refine ⟨⟨_, rfl, Wk.nil _ _⟩, ?_⟩ | refine ⟨⟨_, rfl, Wk.junk _⟩, ?_⟩)) (by repeat (first | exact trivial | refine ⟨rfl, ?_⟩ | exact LH.fam | refine LH.skip (by decide) ?_)) rfl)
     ·simp [S.nat, fnd]; omega
   ·obtain rfl : b = q := by omega
    rw [mix_row] at hL
    refine AW.seq ?_
    refine AW.seq ?_
    refine AW.region ?_
    refine AL.rp rfl rfl (rp_move rfl rfl) ?_
    refine AL.rp rfl rfl (rp_move rfl rfl) ?_
    (refine AL.rp rfl rfl (rp_lssF rfl rfl rfl (by first | assumption | omega | (dsimp only; omega))) ?_)
    refine AL.nil ?_
    try simp only [thenS, S.put, List.nil_append, List.cons_append]
    refine AW.condF rfl ?_
    refine AW.exit ?_
    try simp only [thenS, inBlockS, ↓reduceIte, Nat.reduceEqDiff, List.nil_append, List.cons_append]
    refine AW.region ?_
    refine AL.rp rfl rfl (rp_move rfl rfl) ?_
    refine AL.rp rfl rfl (rp_add rfl rfl rfl (by first | omega | (dsimp only; omega))) ?_
    refine AL.rp rfl rfl (rp_assign rfl rfl) ?_
    refine AL.nil ?_
    try simp only [thenS, S.put, List.nil_append, List.cons_append]
    refine ⟨_, ?_, ⟨a + 1, L, by omega, hL, rfl⟩, ?_⟩
    ·exact (Less.of rfl (by repeat (first | exact trivial | refine ⟨⟨_, rfl, Wk.refl _⟩, ?_⟩ | refine ⟨⟨_, rfl, Wk.nil _ _⟩, ?_⟩ | refine ⟨⟨_, rfl, Wk.junk _⟩, ?_⟩)) (by repeat (first | exact trivial | refine ⟨rfl, ?_⟩ | exact LH.fam | refine LH.skip (by decide) ?_)) rfl)
    ·simp [S.nat, fnd]; omega
  ·obtain rfl : a = q := by omega
   rw [mix_end] at hL
   refine AW.seq ?_
   refine AW.seq ?_
   refine AW.region ?_
   refine AL.rp rfl rfl (rp_move rfl rfl) ?_
   refine AL.rp rfl rfl (rp_move rfl rfl) ?_
   (refine AL.rp rfl rfl (rp_lssF rfl rfl rfl (by first | assumption | omega | (dsimp only; omega))) ?_)
   refine AL.nil ?_
   try simp only [thenS, S.put, List.nil_append, List.cons_append]
   refine AW.condF rfl ?_
   refine AW.exit ?_
   try simp only [thenS, inBlockS, ↓reduceIte, Nat.reduceEqDiff, List.nil_append, List.cons_append]
   refine AW.region ?_
   refine AL.rp rfl rfl (rp_move rfl rfl) ?_
   refine AL.rp rfl rfl (rp_add rfl rfl rfl (by first | omega | (dsimp only; omega))) ?_
   refine AL.rp rfl rfl (rp_assign rfl rfl) ?_
   refine AL.nil ?_
   try simp only [thenS, S.put, List.nil_append, List.cons_append]
   refine ⟨_, ?_, ⟨k + 1, L, by omega, hL, rfl⟩, ?_⟩
   ·exact (Less.of rfl (by repeat (first | exact trivial | refine ⟨⟨_, rfl, Wk.refl _⟩, ?_⟩ | refine ⟨⟨_, rfl, Wk.nil _ _⟩, ?_⟩ | refine ⟨⟨_, rfl, Wk.junk _⟩, ?_⟩)) (by repeat (first | exact trivial | refine ⟨rfl, ?_⟩ | exact LH.fam | refine LH.skip (by decide) ?_)) rfl)
   ·simp [S.nat, fnd]; omega
 ·obtain rfl : k = q := by omega
  have hLr : ∀ r ∈ L, r.length = k := fun r hr => by
   rw [hL] at hr
   obtain ⟨i, hi⟩ := List.getElem?_of_mem hr
   obtain ⟨_, rfl⟩ := bl_inv hi
   exact bl_len _ _
  have hPa : ∀ x ∈ L, (FM.it x).length * FM.bt ≤ 140737488355328 := fun x hx => by
   rw [fm_len, hLr x hx]
   show k * 8 ≤ _
   omega
  rw [← hL]
  refine AW.seq ?_
  refine AW.seq ?_
  refine AW.region ?_
  refine AL.rp rfl rfl (rp_move rfl rfl) ?_
  refine AL.rp rfl rfl (rp_move rfl rfl) ?_
  (refine AL.rp rfl rfl (rp_lssF rfl rfl rfl (by first | assumption | omega | (dsimp only; omega))) ?_)
  refine AL.nil ?_
  try simp only [thenS, S.put, List.nil_append, List.cons_append]
  refine AW.condF rfl ?_
  refine AW.exit ?_
  try simp only [thenS, inBlockS, ↓reduceIte, Nat.reduceEqDiff, List.nil_append, List.cons_append]
  refine AW.seq ?_
  refine AW.famFreezeN (F := FM) (m := 0) (base := 1000) (L := L) [_] 901 rfl rfl (by rw [hLl]) rfl (fun _ => rfl) fm_rows hPa rfl (by intro y hy hne; simp only [List.mem_cons, List.not_mem_nil, or_false] at hy; rcases hy with rfl; exact absurd rfl hne) rfl rfl ?_
  refine AW.freeze 4 24 (L.map rowE) rfl rfl rfl (by rw [List.length_map, hLl]) (by omega) (rowsF (enc := rowE) (sz := 1) (l := L) (fun _ => rfl) rfl) ?_
  refine AW.region ?_
  refine AL.rp rfl rfl (rp_move rfl rfl) ?_
  refine AL.rp rfl rfl (rp_assign rfl rfl) ?_
  refine AL.nil ?_
  try simp only [thenS, S.put, List.nil_append, List.cons_append]
  refine AW.ret ?_
  exact ⟨[_], ⟨rfl, trivial⟩, rfl, by simp [tupOf, V.pure, V.has]⟩
end Go.Proofs.Ythlcginebeapdaa
