-- %hmode
-- %heap
/- topo.Order: what waits for nothing lies in a heap. -/
import Derived.Test.YtnpbdcjfealoeaaAmHpT
import Derived.Test.YtnpbdcjfealoeaaAmTopoR
import Derived.Test.YtnpbdcjfealoeaaAmCheck
namespace Go.Proofs.Ytnpbdcjfealoeaa
open Go.RowKit
set_option linter.unusedSimpArgs false
set_option linter.unusedVariables false
set_option maxRecDepth 100000

theorem lowL_app {b : Nat} (l l' : List V) : V.lowL b (l ++ l') = (V.lowL b l && V.lowL b l') := by
 induction l with
 | nil => simp [V.lowL]
 | cons x l ih => simp [V.lowL, ih, Bool.and_assoc]
theorem wN_nil (sts : List St) (q k : Nat) {x : St} (hx : sts[k]? = some x) : wN sts [] q (k + 1) = wN sts [] q k + cntT x.arcs q := by simp [wN, stA_of hx]
def wa (sts : List St) (p i : Nat) (l : List Ar) (n : Nat) : List Nat := bl (fun q => wN sts [] q p + cntT (l.take i) q) n
theorem wa_next {sts : List St} {p i n t : Nat} {l : List Ar} {a : Ar} (ha : l[i]? = some a) (hat : a.t = (t : Int)) (ht : t < n) : (wa sts p i l n).set t (wN sts [] t p + cntT (l.take i) t + 1) = wa sts p (i + 1) l n := bl_set ht (by rw [cntT_snoc ha, if_pos hat]; omega) fun r _ hr => by rw [cntT_snoc ha, if_neg (by rw [hat]; omega)]; omega
theorem wN_bound {sts : List St} (h : arcN sts ≤ 400) (ou : List Nat) (q : Nat) : ∀ k, k ≤ sts.length → wN sts ou q k ≤ arcN (sts.take k)
 | 0, _ => by simp [wN]
 | k + 1, hk => by
  have ih := wN_bound h ou q k (by omega)
  have hx : sts[k]? = some sts[k] := List.getElem?_eq_getElem (by omega)
  rw [take_snoc hx, arcN_snoc]
  simp only [wN, stA_of hx]
  have := cntT_len sts[k].arcs q
  split <;> omega
theorem wN_400 {sts : List St} (h : arcN sts ≤ 400) (ou : List Nat) (q k : Nat) (hk : k ≤ sts.length) : wN sts ou q k ≤ 400 := by
 have h1 := wN_bound h ou q k hk
 have h2 : arcN (sts.take k) ≤ arcN sts := by
  have : sts = sts.take k ++ sts.drop k := (List.take_append_drop k sts).symm
  conv => rhs; rw [this]
  unfold arcN
  rw [List.map_append, List.sum_append]
  omega
 omega
set_option maxHeartbeats 2000000 in
theorem am_Order0 (m : Mach) : Fn Try.prog 33 [mV m] (resI (ordE m) (ordR m)) := by
 by_cases h0 : machE m = 0
 ·obtain ⟨h60, h400, hst, hz⟩ := machE_zero h0
  have hE : ordE m = if (ordL m.states m.states.length []).length < m.states.length then 6 else 0 := by unfold ordE; rw [if_neg (by simp [h0])]
  have hR : ordE m = 0 → ordR m = ordL m.states m.states.length [] := fun h => by unfold ordR; rw [if_pos h]
  obtain ⟨E, hEE⟩ : ∃ E, ordE m = E := ⟨_, rfl⟩
  obtain ⟨R, hRR⟩ : ∃ E, ordR m = E := ⟨_, rfl⟩
  rw [hEE] at hE hR ⊢
  rw [hRR] at hR ⊢
  clear hEE hRR
  obtain ⟨st, sts⟩ := m
  simp only at h60 h400 hst hz hE hR
  have hal4 : ∀ x ∈ sts, x.arcs.length ≤ 400 := fun x hx => Nat.le_trans (arcN_mem sts x hx) h400
  have h4 := fun ou q k hk => wN_400 h400 ou q k hk
  obtain ⟨n, hn⟩ : ∃ n, sts.length = n := ⟨_, rfl⟩
  rw [hn] at h60 hst hz hE hR
  rw [hn] at h4
  obtain ⟨R0, hR0⟩ : ∃ R, ordL sts n [] = R := ⟨_, rfl⟩
  rw [hR0] at hE hR
  refine Fn.intro (n := 110) ⟨Try.func33, rfl, rfl, rfl, rfl⟩ (by simp [V.pure, V.has, V.hasL]) (by simp) fun w0 out => ?_
  refine AW.seq ?_
  refine AW.region ?_
  refine AL.sm rfl (sm_box 1 rfl rfl rfl (by first | rfl | simp [S.clean, S.put, S.newObj, S.forget, V.has, V.hasL, junkIf, setL, V.cs, hasL_i, hasL_b, hasL_s, hasL_n, hasL_rep, hasL_flat, hasL_append, -List.map_set]) rfl) ?_
  refine AL.rp rfl rfl (rp_assign rfl rfl) ?_
  refine AL.rp rfl rfl (rp_assign rfl rfl) ?_
  refine AL.nil ?_
  try simp only [thenS, S.put, S.newObj, setL, V.cs, List.length_cons, List.length_nil, List.take_succ_cons, List.take_zero, List.drop_succ_cons, List.drop_zero, List.drop_nil, List.nil_append, List.cons_append, List.append_nil, Nat.zero_add, Nat.reduceAdd, List.map_cons, List.map_nil, List.set_cons_zero, List.set_cons_succ, enum]
  refine AW.seq ?_
  refine AW.seq ?_
  refine AW.region ?_
  (first | (refine AL.rd rfl rfl (rd_loads_ref Try.underlying24 rfl inf24 rfl rfl rfl rfl rfl rfl) ?_) | (refine AL.rd rfl rfl (rd_loads_ad Try.underlying24 rfl inf24 rfl rfl rfl rfl) ?_))
  refine AL.call (post := ?pc0) rfl (sm_call (args := [_]) ?hc0 ⟨Try.func45, rfl, rfl, rfl, rfl⟩ rfl rfl rfl rfl) ?_
  case hc0 => exact Fn.eqi (am_Check ⟨st, sts⟩) h0
  rintro _ rfl -
  try dsimp only
  refine AL.rp rfl rfl (rp_assign rfl rfl) ?_
  refine AL.nil ?_
  try simp only [thenS, S.put, S.newObj, setL, V.cs, List.length_cons, List.length_nil, List.take_succ_cons, List.take_zero, List.drop_succ_cons, List.drop_zero, List.drop_nil, List.nil_append, List.cons_append, List.append_nil, Nat.zero_add, Nat.reduceAdd, List.map_cons, List.map_nil, List.set_cons_zero, List.set_cons_succ]
  refine AW.seq ?_
  refine AW.region ?_
  refine AL.rp rfl rfl (rp_move rfl rfl) ?_
  (first | (refine AL.rp rfl rfl (rp_neqT rfl rfl rfl (by first | assumption | omega | (dsimp only; omega))) ?_) | (refine AL.rp rfl rfl (rp_neqF rfl rfl rfl (by first | assumption | omega | (dsimp only; omega))) ?_) | (refine AL.rp rfl rfl (rp_neq rfl rfl rfl) ?_))
  refine AL.nil ?_
  try simp only [thenS, S.put]
  refine AW.condF rfl ?_
  refine AW.skip ?_
  try simp only [thenS]
  refine AW.seq ?_
  refine AW.region ?_
  (first | (refine AL.rp rfl rfl (rp_field_ref Try.underlying24 rfl rfl rfl inf22 (by decide) rfl) ?_) | (refine AL.rp rfl rfl (rp_field_ad Try.underlying24 rfl rfl rfl inf22 (by decide) rfl) ?_))
  (first | (refine AL.rd rfl rfl (rd_load_ref Try.underlying22 rfl rfl rfl rfl rfl rfl) ?_) | (refine AL.rd rfl rfl (rd_load_ad Try.underlying22 rfl rfl rfl rfl) ?_) | (refine AL.rd rfl rfl (rd_load_map Try.underlying22 rfl rfl rfl rfl rfl rfl (by assumption)) ?_) | (refine AL.rd rfl rfl (rd_load_flat Try.underlying22 rfl rfl rfl rfl rfl rfl (fun _ => rfl) (by assumption) rfl) ?_))
  (first | (refine AL.rp rfl rfl (rp_len_map Try.underlying22 rfl rfl (by assumption)) ?_) | (refine AL.rp rfl rfl (rp_len_own Try.underlying22 rfl rfl) ?_) | (refine AL.rp rfl rfl (rp_len_sl Try.underlying22 rfl rfl) ?_) | (refine AL.rp rfl rfl (rp_len_nil Try.underlying22 rfl rfl) ?_) | (refine AL.rp rfl rfl (rp_len_str Try.underlying22 rfl rfl) ?_))
  refine AL.sm rfl (sm_make_map 25 V.i (0) Try.underlying29 inf3 rfl rfl rfl rfl rfl (by omega) (by decide) (by first | rfl | simp [S.clean, S.put, S.newObj, S.forget, V.has, V.hasL, junkIf, setL, V.cs, hasL_i, hasL_b, hasL_s, hasL_n, hasL_rep, hasL_flat, hasL_append, -List.map_set]) rfl) ?_
  refine AL.rp rfl rfl (rp_assign rfl rfl) ?_
  refine AL.nil ?_
  try simp only [thenS, S.put, S.newObj, setL, V.cs, List.length_cons, List.length_nil, List.take_succ_cons, List.take_zero, List.drop_succ_cons, List.drop_zero, List.drop_nil, List.nil_append, List.cons_append, List.append_nil, Nat.zero_add, Nat.reduceAdd, List.map_cons, List.map_nil, List.set_cons_zero, List.set_cons_succ]
  refine AW.seq ?_
  refine AW.seq ?_
  refine AW.region ?_
  (first | (refine AL.rp rfl rfl (rp_field_ref Try.underlying24 rfl rfl rfl inf22 (by decide) rfl) ?_) | (refine AL.rp rfl rfl (rp_field_ad Try.underlying24 rfl rfl rfl inf22 (by decide) rfl) ?_))
  (first | (refine AL.rd rfl rfl (rd_load_ref Try.underlying22 rfl rfl rfl rfl rfl rfl) ?_) | (refine AL.rd rfl rfl (rd_load_ad Try.underlying22 rfl rfl rfl rfl) ?_) | (refine AL.rd rfl rfl (rd_load_map Try.underlying22 rfl rfl rfl rfl rfl rfl (by assumption)) ?_) | (refine AL.rd rfl rfl (rd_load_flat Try.underlying22 rfl rfl rfl rfl rfl rfl (fun _ => rfl) (by assumption) rfl) ?_))
  (first | (refine AL.rp rfl rfl (rp_len_map Try.underlying22 rfl rfl (by assumption)) ?_) | (refine AL.rp rfl rfl (rp_len_own Try.underlying22 rfl rfl) ?_) | (refine AL.rp rfl rfl (rp_len_sl Try.underlying22 rfl rfl) ?_) | (refine AL.rp rfl rfl (rp_len_nil Try.underlying22 rfl rfl) ?_) | (refine AL.rp rfl rfl (rp_len_str Try.underlying22 rfl rfl) ?_))
  refine AL.rp rfl rfl (rp_move rfl rfl) ?_
  refine AL.nil ?_
  try simp only [thenS, S.put]
  refine AW.block ?_
  refine AW.loop (fun s' => ∃ p : Nat, p ≤ n ∧ s' = ⟨110, [(1, .ref 1 0), (5, .own 25 1 n false), (27, .d (stsD sts)), (28, .i n), (29, .i p)], [(1, ⟨24, [.i st, .d (stsD sts)], false, 0⟩), (25, ⟨3, (wa sts p 0 [] n).map V.n, false, 1⟩)], []⟩) (fun s' => n - s'.nat 29) ⟨_, ?_, 0, by omega, rfl⟩ ?_
  ·have hz0 : (List.replicate n (0 : Int)).map V.i = (wa sts 0 0 [] n).map V.n := by rw [show wa sts 0 0 [] n = List.replicate n 0 by rw [bl_rep]; exact bl_congr fun q _ => by simp [wN, cntT]]; simp
   rw [hz0]
   exact (Less.of rfl (by repeat (first | exact trivial | refine ⟨⟨_, rfl, Wk.refl _⟩, ?_⟩ | refine ⟨⟨_, rfl, Wk.nil _ _⟩, ?_⟩ | refine ⟨⟨_, rfl, Wk.junk _⟩, ?_⟩)) (by repeat (first | exact trivial | refine ⟨rfl, ?_⟩)) rfl)
  rintro s' ⟨p, hp, rfl⟩
  by_cases hlp : p < n
  ·obtain ⟨x, hx⟩ := get_lt hn hlp
   obtain ⟨la, hla⟩ : ∃ n, x.arcs.length = n := ⟨_, rfl⟩
   have hla' := hal4 x (List.mem_of_getElem? hx)
   rw [hla] at hla'
   have hw0 : wa sts p 0 [] n = wa sts p 0 x.arcs n := rfl
   have hw1 : wa sts p la x.arcs n = wa sts (p + 1) 0 [] n := bl_congr fun q _ => by rw [wN_nil sts q p hx, List.take_of_length_le (by omega)]; simp [cntT]
   rw [hw0]
   refine AW.seq ?_
   refine AW.region ?_
   (first | (refine AL.rp rfl rfl (rp_lssT rfl rfl rfl (by first | assumption | omega | (dsimp only; omega))) ?_) | (refine AL.rp rfl rfl (rp_lssF rfl rfl rfl (by first | assumption | omega | (dsimp only; omega))) ?_) | (refine AL.rp rfl rfl (rp_lss rfl rfl rfl) ?_))
   refine AL.nil ?_
   try simp only [thenS, S.put]
   refine AW.seq ?_
   refine AW.condT rfl ?_
   refine AW.skip ?_
   try simp only [thenS]
   refine AW.seq ?_
   refine AW.block ?_
   refine AW.seq ?_
   refine AW.region ?_
   (first | (refine AL.rp rfl rfl (rp_index_map Try.underlying22 inf69 rfl rfl rfl rfl (by assumption)) ?_) | (refine AL.rp rfl rfl (rp_index_own Try.underlying22 inf69 rfl rfl rfl rfl (by first | assumption | omega)) ?_) | (refine AL.rp rfl rfl (rd_index_sl Try.underlying22 inf69 rfl rfl rfl rfl (by assumption)) ?_) | (refine AL.rp rfl rfl (rp_index_own Try.underlying22 inf69 rfl rfl rfl (by omega) (by omega)) ?_))
   (first | (refine AL.rd rfl rfl (rd_loads_ref Try.underlying69 rfl inf69 rfl rfl rfl rfl rfl rfl) ?_) | (refine AL.rd rfl rfl (rd_loads_ad Try.underlying69 rfl inf69 rfl rfl rfl rfl) ?_))
   refine AL.sm rfl (sm_alloc (l := [.d (.p (.int .i64 0)), .d (.p (.slice none 0 0))]) 7 inf69 rfl (by first | rfl | simp [S.clean, S.put, S.newObj, S.forget, V.has, V.hasL, junkIf, setL, V.cs, hasL_i, hasL_b, hasL_s, hasL_n, hasL_rep, hasL_flat, hasL_append, -List.map_set]) rfl rfl) ?_
   refine AL.st rfl (st_store_any inf69 rfl rfl rfl rfl rfl rfl rfl rfl (by first | decide | (simp; done) | (simp; omega)) rfl) ?_
   refine AL.nil ?_
   try simp only [thenS, S.put, S.newObj, setL, V.cs, List.length_cons, List.length_nil, List.take_succ_cons, List.take_zero, List.drop_succ_cons, List.drop_zero, List.drop_nil, List.nil_append, List.cons_append, List.append_nil, Nat.zero_add, Nat.reduceAdd, List.map_cons, List.map_nil, List.set_cons_zero, List.set_cons_succ]
   refine AW.seq ?_
   refine AW.region ?_
   (first | (refine AL.rp rfl rfl (rp_field_ref Try.underlying69 rfl rfl rfl inf67 (by decide) rfl) ?_) | (refine AL.rp rfl rfl (rp_field_ad Try.underlying69 rfl rfl rfl inf67 (by decide) rfl) ?_))
   (first | (refine AL.rd rfl rfl (rd_load_ref Try.underlying67 rfl rfl rfl rfl rfl rfl) ?_) | (refine AL.rd rfl rfl (rd_load_ad Try.underlying67 rfl rfl rfl rfl) ?_) | (refine AL.rd rfl rfl (rd_load_map Try.underlying67 rfl rfl rfl rfl rfl rfl (by assumption)) ?_) | (refine AL.rd rfl rfl (rd_load_flat Try.underlying67 rfl rfl rfl rfl rfl rfl (fun _ => rfl) (by assumption) rfl) ?_))
   (first | (refine AL.rp rfl rfl (rp_len_map Try.underlying67 rfl rfl (by assumption)) ?_) | (refine AL.rp rfl rfl (rp_len_own Try.underlying67 rfl rfl) ?_) | (refine AL.rp rfl rfl (rp_len_sl Try.underlying67 rfl rfl) ?_) | (refine AL.rp rfl rfl (rp_len_nil Try.underlying67 rfl rfl) ?_) | (refine AL.rp rfl rfl (rp_len_str Try.underlying67 rfl rfl) ?_))
   refine AL.rp rfl rfl (rp_move rfl rfl) ?_
   refine AL.nil ?_
   try simp only [thenS, S.put]
   refine AW.block ?_
   refine AW.loop (fun s' => ∃ i : Nat, i ≤ la ∧ s' = ⟨110, [(1, .ref 1 0), (5, .own 25 1 n false), (27, .d (stsD sts)), (28, .i n), (29, .i p), (34, .d (arsD x.arcs)), (35, .i la), (36, .i i)], [(1, ⟨24, [.i st, .d (stsD sts)], false, 0⟩), (25, ⟨3, (wa sts p i x.arcs n).map V.n, false, 1⟩)], []⟩) (fun s' => la - s'.nat 36) ⟨_, ?_, 0, by omega, rfl⟩ ?_
   ·exact (Less.of rfl (by repeat (first | exact trivial | refine ⟨⟨_, rfl, Wk.refl _⟩, ?_⟩ | refine ⟨⟨_, rfl, Wk.nil _ _⟩, ?_⟩ | refine ⟨⟨_, rfl, Wk.junk _⟩, ?_⟩)) (by repeat (first | exact trivial | refine ⟨rfl, ?_⟩)) rfl)
   rintro s' ⟨i, hi, rfl⟩
   by_cases hil : i < la
   ·obtain ⟨y, hy⟩ := get_lt hla hil
    have hyt := (hz x (List.mem_of_getElem? hx)).2 y (List.mem_of_getElem? hy)
    have hnx := fun (t : Nat) (h1 : y.t = (t : Int)) (h2 : t < n) => wa_next (sts := sts) (p := p) hy h1 h2
    obtain ⟨yi, yo, yw, yt⟩ := y
    simp only [arOk, decide_eq_true_eq] at hyt
    obtain ⟨t, rfl⟩ : ∃ p : Nat, yt = p := ⟨yt.toNat, by omega⟩
    have htn : t < n := by omega
    have hnx' := hnx t rfl htn
    have hwt : (wa sts p i x.arcs n)[t]? = some (wN sts [] t p + cntT (x.arcs.take i) t) := bl_get htn
    have hwl : t < (wa sts p i x.arcs n).length := by unfold wa; rw [bl_len]; exact htn
    have hb1 := h4 [] t p (by omega)
    have hb2 := cntT_le x.arcs i t
    have hb3 := cntT_len x.arcs t
    obtain ⟨w, hw⟩ : ∃ w, wN sts [] t p + cntT (x.arcs.take i) t = w := ⟨_, rfl⟩
    rw [hw] at hwt hnx'
    have hwb : w ≤ 1000 := by omega
    clear hw hb1 hb2 hb3 hnx
    refine AW.seq ?_
    refine AW.region ?_
    (first | (refine AL.rp rfl rfl (rp_lssT rfl rfl rfl (by first | assumption | omega | (dsimp only; omega))) ?_) | (refine AL.rp rfl rfl (rp_lssF rfl rfl rfl (by first | assumption | omega | (dsimp only; omega))) ?_) | (refine AL.rp rfl rfl (rp_lss rfl rfl rfl) ?_))
    refine AL.nil ?_
    try simp only [thenS, S.put]
    refine AW.seq ?_
    refine AW.condT rfl ?_
    refine AW.skip ?_
    try simp only [thenS]
    refine AW.seq ?_
    refine AW.block ?_
    refine AW.seq ?_
    refine AW.region ?_
    (first | (refine AL.rp rfl rfl (rp_index_map Try.underlying67 inf79 rfl rfl rfl rfl (by assumption)) ?_) | (refine AL.rp rfl rfl (rp_index_own Try.underlying67 inf79 rfl rfl rfl rfl (by first | assumption | omega)) ?_) | (refine AL.rp rfl rfl (rd_index_sl Try.underlying67 inf79 rfl rfl rfl rfl (by assumption)) ?_) | (refine AL.rp rfl rfl (rp_index_own Try.underlying67 inf79 rfl rfl rfl (by omega) (by omega)) ?_))
    (first | (refine AL.rd rfl rfl (rd_loads_ref Try.underlying79 rfl inf79 rfl rfl rfl rfl rfl rfl) ?_) | (refine AL.rd rfl rfl (rd_loads_ad Try.underlying79 rfl inf79 rfl rfl rfl rfl) ?_))
    refine AL.sm rfl (sm_alloc (l := [.d (.p (.int .i64 0)), .d (.p (.int .i64 0)), .d (.p (.int .i64 0)), .d (.p (.int .i64 0))]) 9 inf79 rfl (by first | rfl | simp [S.clean, S.put, S.newObj, S.forget, V.has, V.hasL, junkIf, setL, V.cs, hasL_i, hasL_b, hasL_s, hasL_n, hasL_rep, hasL_flat, hasL_append, -List.map_set]) rfl rfl) ?_
    refine AL.st rfl (st_store_any inf79 rfl rfl rfl rfl rfl rfl rfl rfl (by first | decide | (simp; done) | (simp; omega)) rfl) ?_
    refine AL.nil ?_
    try simp only [thenS, S.put, S.newObj, setL, V.cs, List.length_cons, List.length_nil, List.take_succ_cons, List.take_zero, List.drop_succ_cons, List.drop_zero, List.drop_nil, List.nil_append, List.cons_append, List.append_nil, Nat.zero_add, Nat.reduceAdd, List.map_cons, List.map_nil, List.set_cons_zero, List.set_cons_succ]
    refine AW.region ?_
    refine AL.rp rfl rfl (rp_move rfl rfl) ?_
    (first | (refine AL.rp rfl rfl (rp_field_ref Try.underlying79 rfl rfl rfl inf3 (by decide) rfl) ?_) | (refine AL.rp rfl rfl (rp_field_ad Try.underlying79 rfl rfl rfl inf3 (by decide) rfl) ?_))
    (first | (refine AL.rd rfl rfl (rd_load_ref Try.underlying3 rfl rfl rfl rfl rfl rfl) ?_) | (refine AL.rd rfl rfl (rd_load_ad Try.underlying3 rfl rfl rfl rfl) ?_) | (refine AL.rd rfl rfl (rd_load_map Try.underlying3 rfl rfl rfl rfl rfl rfl (by assumption)) ?_) | (refine AL.rd rfl rfl (rd_load_flat Try.underlying3 rfl rfl rfl rfl rfl rfl (fun _ => rfl) (by assumption) rfl) ?_))
    (first | (refine AL.rp rfl rfl (rp_index_map Try.underlying29 inf3 rfl rfl rfl rfl (by assumption)) ?_) | (refine AL.rp rfl rfl (rp_index_own Try.underlying29 inf3 rfl rfl rfl rfl (by first | assumption | omega)) ?_) | (refine AL.rp rfl rfl (rd_index_sl Try.underlying29 inf3 rfl rfl rfl rfl (by assumption)) ?_) | (refine AL.rp rfl rfl (rp_index_own Try.underlying29 inf3 rfl rfl rfl (by omega) (by omega)) ?_))
    (first | (refine AL.rd rfl rfl (rd_load_ref Try.underlying3 rfl rfl rfl rfl rfl rfl) ?_) | (refine AL.rd rfl rfl (rd_load_ad Try.underlying3 rfl rfl rfl rfl) ?_) | (refine AL.rd rfl rfl (rd_load_map Try.underlying3 rfl rfl rfl rfl rfl rfl (by assumption)) ?_) | (refine AL.rd rfl rfl (rd_load_flat Try.underlying3 rfl rfl rfl rfl rfl rfl (fun _ => rfl) (by assumption) rfl) ?_))
    refine AL.rp rfl rfl (rp_add rfl rfl rfl (by first | omega | (dsimp only; omega))) ?_
    (first | (refine AL.rp rfl rfl (rp_index_map Try.underlying29 inf3 rfl rfl rfl rfl (by assumption)) ?_) | (refine AL.rp rfl rfl (rp_index_own Try.underlying29 inf3 rfl rfl rfl rfl (by first | assumption | omega)) ?_) | (refine AL.rp rfl rfl (rd_index_sl Try.underlying29 inf3 rfl rfl rfl rfl (by assumption)) ?_) | (refine AL.rp rfl rfl (rp_index_own Try.underlying29 inf3 rfl rfl rfl (by omega) (by omega)) ?_))
    refine AL.st rfl (st_store_map2 (v := w + 1) inf3 rfl rfl rfl rfl rfl rfl rfl rfl (by first | assumption | omega)) ?_
    refine AL.nil ?_
    try simp only [thenS, S.put, S.newObj, setL, V.cs, List.length_cons, List.length_nil, List.take_succ_cons, List.take_zero, List.drop_succ_cons, List.drop_zero, List.drop_nil, List.nil_append, List.cons_append, List.append_nil, Nat.zero_add, Nat.reduceAdd, List.map_cons, List.map_nil, List.set_cons_zero, List.set_cons_succ]
    refine AW.region ?_
    refine AL.rp rfl rfl (rp_add rfl rfl rfl (by first | omega | (dsimp only; omega))) ?_
    refine AL.rp rfl rfl (rp_move rfl rfl) ?_
    refine AL.nil ?_
    try simp only [thenS, S.put]
    refine ⟨_, ?_, ⟨i + 1, by omega, rfl⟩, ?_⟩
    ·rw [← hnx']; exact (Less.of rfl (by repeat (first | exact trivial | refine ⟨⟨_, rfl, Wk.refl _⟩, ?_⟩ | refine ⟨⟨_, rfl, Wk.nil _ _⟩, ?_⟩ | refine ⟨⟨_, rfl, Wk.junk _⟩, ?_⟩)) (by repeat (first | exact trivial | refine ⟨rfl, ?_⟩)) rfl)
    ·simp [S.nat, fnd]; omega
   ·obtain rfl : i = la := by omega
    rw [hw1]
    refine AW.seq ?_
    refine AW.region ?_
    (first | (refine AL.rp rfl rfl (rp_lssT rfl rfl rfl (by first | assumption | omega | (dsimp only; omega))) ?_) | (refine AL.rp rfl rfl (rp_lssF rfl rfl rfl (by first | assumption | omega | (dsimp only; omega))) ?_) | (refine AL.rp rfl rfl (rp_lss rfl rfl rfl) ?_))
    refine AL.nil ?_
    try simp only [thenS, S.put]
    refine AW.seq ?_
    refine AW.condF rfl ?_
    refine AW.exit ?_
    try simp only [thenS, inBlockS, ↓reduceIte, Nat.reduceEqDiff]
    refine AW.region ?_
    refine AL.rp rfl rfl (rp_add rfl rfl rfl (by first | omega | (dsimp only; omega))) ?_
    refine AL.rp rfl rfl (rp_move rfl rfl) ?_
    refine AL.nil ?_
    try simp only [thenS, S.put]
    refine ⟨_, ?_, ⟨p + 1, by omega, rfl⟩, ?_⟩
    ·exact (Less.of rfl (by repeat (first | exact trivial | refine ⟨⟨_, rfl, Wk.refl _⟩, ?_⟩ | refine ⟨⟨_, rfl, Wk.nil _ _⟩, ?_⟩ | refine ⟨⟨_, rfl, Wk.junk _⟩, ?_⟩)) (by repeat (first | exact trivial | refine ⟨rfl, ?_⟩)) rfl)
    ·simp [S.nat, fnd]; omega
  ·obtain rfl : p = n := by omega
   have hWg : ∀ r, r < p → (wa sts p 0 [] p)[r]? = some (wN sts [] r p) := fun r hr => by unfold wa; rw [bl_get hr]; simp [cntT]
   have hWl : (wa sts p 0 [] p).length = p := bl_len _ _
   obtain ⟨W, hW⟩ : ∃ W, wa sts p 0 [] p = W := ⟨_, rfl⟩
   rw [hW] at hWg hWl ⊢
   clear hW
   obtain ⟨n, rfl⟩ : ∃ n, n = p := ⟨_, rfl⟩
   have hWb : ∀ (r w : Nat), W[r]? = some w → w ≤ 400 := fun r w h => by
    have hr : r < n := by rw [← hWl]; exact (List.getElem?_eq_some_iff.1 h).1
    rw [hWg r hr] at h
    simp only [Option.some.injEq] at h
    subst h
    exact h4 [] r n (Nat.le_refl _)
   refine AW.seq ?_
   refine AW.region ?_
   (first | (refine AL.rp rfl rfl (rp_lssT rfl rfl rfl (by first | assumption | omega | (dsimp only; omega))) ?_) | (refine AL.rp rfl rfl (rp_lssF rfl rfl rfl (by first | assumption | omega | (dsimp only; omega))) ?_) | (refine AL.rp rfl rfl (rp_lss rfl rfl rfl) ?_))
   refine AL.nil ?_
   try simp only [thenS, S.put]
   refine AW.seq ?_
   refine AW.condF rfl ?_
   refine AW.exit ?_
   try simp only [thenS, inBlockS, ↓reduceIte, Nat.reduceEqDiff]
   refine AW.seq ?_
   refine AW.region ?_
   refine AL.sm rfl (sm_alloc (l := [.d (.p (.slice none 0 0))]) 900 inf99 rfl (by first | rfl | simp [S.clean, S.put, S.newObj, S.forget, V.has, V.hasL, junkIf, setL, V.cs, hasL_i, hasL_b, hasL_s, hasL_n, hasL_rep, hasL_flat, hasL_append, -List.map_set]) rfl rfl) ?_
   refine AL.nil ?_
   try simp only [thenS, S.put, S.newObj, setL, V.cs, List.length_cons, List.length_nil, List.take_succ_cons, List.take_zero, List.drop_succ_cons, List.drop_zero, List.drop_nil, List.nil_append, List.cons_append, List.append_nil, Nat.zero_add, Nat.reduceAdd, List.map_cons, List.map_nil, List.set_cons_zero, List.set_cons_succ]
   refine AW.seq ?_
   refine AW.seq ?_
   refine AW.region ?_
   refine AL.rp rfl rfl (rp_move rfl rfl) ?_
   (first | (refine AL.rp rfl rfl (rp_len_map Try.underlying29 rfl rfl (by assumption)) ?_) | (refine AL.rp rfl rfl (rp_len_own Try.underlying29 rfl rfl) ?_) | (refine AL.rp rfl rfl (rp_len_sl Try.underlying29 rfl rfl) ?_) | (refine AL.rp rfl rfl (rp_len_nil Try.underlying29 rfl rfl) ?_) | (refine AL.rp rfl rfl (rp_len_str Try.underlying29 rfl rfl) ?_))
   refine AL.rp rfl rfl (rp_move rfl rfl) ?_
   refine AL.nil ?_
   try simp only [thenS, S.put]
   refine AW.block ?_
   refine AW.adoptH 900 0 901 1 3 rfl rfl rfl (by simp [S.clean, V.has, V.hasL, V.cs, setL]) ?_
   refine AW.loop (fun s' => ∃ (k : Nat) (rd : List Nat) (f : Bool), k ≤ n ∧ (f = true → rd = []) ∧ Hp HT.key rd ∧ rd.Nodup ∧ (∀ r, r ∈ rd ↔ r < k ∧ W[r]? = some 0) ∧ rd.length ≤ k ∧ s' = ⟨110, [(1, .ref 1 0), (5, .own 25 1 n false), (10, .ref 900 0), (49, .own 25 1 n false), (50, .i n), (51, .i k)], hpTl rd f [(1, ⟨24, [.i st, .d (stsD sts)], false, 0⟩), (25, ⟨3, W.map V.n, false, 1⟩)], []⟩) (fun s' => n - s'.nat 51) ⟨_, ?_, 0, [], true, by omega, (fun _ => rfl), hp_nil, by simp, by simp, by simp, rfl⟩ ?_
   ·exact (Less.of rfl (by repeat (first | exact trivial | refine ⟨⟨_, rfl, Wk.refl _⟩, ?_⟩ | refine ⟨⟨_, rfl, Wk.nil _ _⟩, ?_⟩ | refine ⟨⟨_, rfl, Wk.junk _⟩, ?_⟩)) (by repeat (first | exact trivial | refine ⟨rfl, ?_⟩)) rfl)
   rintro s' ⟨k, rd, f, hk, hf, hhp, hnd, hmem, hrl, rfl⟩
   by_cases hkn : k < n
   ·obtain ⟨w, hw⟩ : ∃ w, W[k]? = some w := ⟨_, List.getElem?_eq_getElem (by omega)⟩
    by_cases hw0 : w = 0
    ·subst hw0
     have htest : ((0 : Nat) : Int) = 0 := rfl
     have hl : Lw [(1, (⟨24, [.i st, .d (stsD sts)], false, 0⟩ : Row)), (25, ⟨3, W.map V.n, false, 1⟩)] [] := ⟨by simp [V.lowL, V.low, lowL_n], rfl⟩
     refine AW.seq ?_
     refine AW.region ?_
     (first | (refine AL.rp rfl rfl (rp_lssT rfl rfl rfl (by first | assumption | omega | (dsimp only; omega))) ?_) | (refine AL.rp rfl rfl (rp_lssF rfl rfl rfl (by first | assumption | omega | (dsimp only; omega))) ?_) | (refine AL.rp rfl rfl (rp_lss rfl rfl rfl) ?_))
     refine AL.nil ?_
     try simp only [thenS, S.put]
     refine AW.seq ?_
     refine AW.condT rfl ?_
     refine AW.skip ?_
     try simp only [thenS]
     refine AW.seq ?_
     refine AW.block ?_
     refine AW.seq ?_
     refine AW.region ?_
     refine AL.rp rfl rfl (rp_move rfl rfl) ?_
     (first | (refine AL.rp rfl rfl (rp_index_map Try.underlying29 inf3 rfl rfl rfl rfl (by assumption)) ?_) | (refine AL.rp rfl rfl (rp_index_own Try.underlying29 inf3 rfl rfl rfl rfl (by first | assumption | omega)) ?_) | (refine AL.rp rfl rfl (rd_index_sl Try.underlying29 inf3 rfl rfl rfl rfl (by assumption)) ?_) | (refine AL.rp rfl rfl (rp_index_own Try.underlying29 inf3 rfl rfl rfl (by omega) (by omega)) ?_))
     (first | (refine AL.rd rfl rfl (rd_load_ref Try.underlying3 rfl rfl rfl rfl rfl rfl) ?_) | (refine AL.rd rfl rfl (rd_load_ad Try.underlying3 rfl rfl rfl rfl) ?_) | (refine AL.rd rfl rfl (rd_load_map Try.underlying3 rfl rfl rfl rfl rfl rfl (by assumption)) ?_) | (refine AL.rd rfl rfl (rd_load_flat Try.underlying3 rfl rfl rfl rfl rfl rfl (fun _ => rfl) (by assumption) rfl) ?_))
     refine AL.rp rfl rfl (rp_assign rfl rfl) ?_
     refine AL.rp rfl rfl (rp_assign rfl rfl) ?_
     refine AL.nil ?_
     try simp only [thenS, S.put]
     refine AW.seq ?_
     refine AW.region ?_
     refine AL.rp rfl rfl (rp_move rfl rfl) ?_
     (first | (refine AL.rp rfl rfl (rp_eqlT rfl rfl rfl (by first | assumption | omega | (dsimp only; omega))) ?_) | (refine AL.rp rfl rfl (rp_eqlF rfl rfl rfl (by first | assumption | omega | (dsimp only; omega))) ?_) | (refine AL.rp rfl rfl (rp_eql rfl rfl rfl) ?_))
     refine AL.nil ?_
     try simp only [thenS, S.put]
     refine AW.condT rfl ?_
     refine AW.region ?_
     (first | (refine AL.rp rfl rfl (rp_mkP rfl rfl (fun _ _ => by kernel_rfl)) ?_) | (refine AL.rp rfl rfl (rp_mkA [_] rfl rfl rfl (fun _ _ => by kernel_rfl)) ?_) | (refine AL.rp rfl rfl (rp_mkIfc rfl rfl (fun _ _ => by kernel_rfl)) ?_))
     refine AL.rp rfl rfl (rp_move rfl rfl) ?_
     (first | (refine AL.rp rfl rfl (rp_mkP rfl rfl (fun _ _ => by kernel_rfl)) ?_) | (refine AL.rp rfl rfl (rp_mkA [_] rfl rfl rfl (fun _ _ => by kernel_rfl)) ?_) | (refine AL.rp rfl rfl (rp_mkIfc rfl rfl (fun _ _ => by kernel_rfl)) ?_))
     try simp only [S.put, S.newObj, setL, V.cs, List.length_cons, List.length_nil, List.take_succ_cons, List.take_zero, List.drop_succ_cons, List.drop_zero, List.drop_nil, List.nil_append, List.cons_append, List.append_nil, Nat.zero_add, Nat.reduceAdd]
     refine AL.pc [1, 5, 10, 49, 50, 51] (ts := [_, _, _, _, _, _]) (args := [_, _]) (post := ?pc1) ?hc1 rfl rfl rfl rfl rfl rfl rfl rfl rfl ?_
     case hc1 => (refine am_pushT (hl.keepL _ ?_) rd f k (by omega) hhp <;> first | rfl | (simp [V.lowL, V.low]; done))
     rintro _ _ _ ⟨rd', h1, h2, rfl, rfl⟩
     simp only [back, S.put, List.cons_append, List.nil_append, List.zip_cons_cons, List.zip_nil_left, List.drop_succ_cons, List.drop_zero, List.length_cons, List.length_nil, Nat.zero_add, Nat.reduceAdd]
     refine AL.nil ?_
     try simp only [thenS, S.put]
     refine AW.region ?_
     refine AL.rp rfl rfl (rp_add rfl rfl rfl (by first | omega | (dsimp only; omega))) ?_
     refine AL.rp rfl rfl (rp_move rfl rfl) ?_
     refine AL.nil ?_
     try simp only [thenS, S.put]
     refine ⟨_, ?_, ⟨k + 1, rd', false, by omega, (fun h => by cases h), h1, h2.nodup_iff.2 (List.nodup_cons.2 ⟨fun h => by have := (hmem k).1 h; omega, hnd⟩), fun r => ?_, by rw [h2.length_eq]; simp; omega, rfl⟩, ?_⟩
     ·exact (Less.of rfl (by repeat (first | exact trivial | refine ⟨⟨_, rfl, Wk.refl _⟩, ?_⟩ | refine ⟨⟨_, rfl, Wk.nil _ _⟩, ?_⟩ | refine ⟨⟨_, rfl, Wk.junk _⟩, ?_⟩)) (by repeat (first | exact trivial | refine ⟨rfl, ?_⟩)) rfl)
     ·rw [h2.mem_iff, List.mem_cons, hmem r]
      constructor
      ·rintro (rfl | ⟨a, b⟩)
       ·exact ⟨by omega, hw⟩
       ·exact ⟨by omega, b⟩
      ·rintro ⟨a, b⟩
       by_cases e : r = k
       ·exact .inl e
       ·exact .inr ⟨by omega, b⟩
     ·simp [S.nat, fnd]; omega
    ·have htest : ¬ (w : Int) = 0 := by omega
     refine AW.seq ?_
     refine AW.region ?_
     (first | (refine AL.rp rfl rfl (rp_lssT rfl rfl rfl (by first | assumption | omega | (dsimp only; omega))) ?_) | (refine AL.rp rfl rfl (rp_lssF rfl rfl rfl (by first | assumption | omega | (dsimp only; omega))) ?_) | (refine AL.rp rfl rfl (rp_lss rfl rfl rfl) ?_))
     refine AL.nil ?_
     try simp only [thenS, S.put]
     refine AW.seq ?_
     refine AW.condT rfl ?_
     refine AW.skip ?_
     try simp only [thenS]
     refine AW.seq ?_
     refine AW.block ?_
     refine AW.seq ?_
     refine AW.region ?_
     refine AL.rp rfl rfl (rp_move rfl rfl) ?_
     (first | (refine AL.rp rfl rfl (rp_index_map Try.underlying29 inf3 rfl rfl rfl rfl (by assumption)) ?_) | (refine AL.rp rfl rfl (rp_index_own Try.underlying29 inf3 rfl rfl rfl rfl (by first | assumption | omega)) ?_) | (refine AL.rp rfl rfl (rd_index_sl Try.underlying29 inf3 rfl rfl rfl rfl (by assumption)) ?_) | (refine AL.rp rfl rfl (rp_index_own Try.underlying29 inf3 rfl rfl rfl (by omega) (by omega)) ?_))
     (first | (refine AL.rd rfl rfl (rd_load_ref Try.underlying3 rfl rfl rfl rfl rfl rfl) ?_) | (refine AL.rd rfl rfl (rd_load_ad Try.underlying3 rfl rfl rfl rfl) ?_) | (refine AL.rd rfl rfl (rd_load_map Try.underlying3 rfl rfl rfl rfl rfl rfl (by assumption)) ?_) | (refine AL.rd rfl rfl (rd_load_flat Try.underlying3 rfl rfl rfl rfl rfl rfl (fun _ => rfl) (by assumption) rfl) ?_))
     refine AL.rp rfl rfl (rp_assign rfl rfl) ?_
     refine AL.rp rfl rfl (rp_assign rfl rfl) ?_
     refine AL.nil ?_
     try simp only [thenS, S.put]
     refine AW.seq ?_
     refine AW.region ?_
     refine AL.rp rfl rfl (rp_move rfl rfl) ?_
     (first | (refine AL.rp rfl rfl (rp_eqlT rfl rfl rfl (by first | assumption | omega | (dsimp only; omega))) ?_) | (refine AL.rp rfl rfl (rp_eqlF rfl rfl rfl (by first | assumption | omega | (dsimp only; omega))) ?_) | (refine AL.rp rfl rfl (rp_eql rfl rfl rfl) ?_))
     refine AL.nil ?_
     try simp only [thenS, S.put]
     refine AW.condF rfl ?_
     refine AW.skip ?_
     try simp only [thenS]
     refine AW.region ?_
     refine AL.rp rfl rfl (rp_add rfl rfl rfl (by first | omega | (dsimp only; omega))) ?_
     refine AL.rp rfl rfl (rp_move rfl rfl) ?_
     refine AL.nil ?_
     try simp only [thenS, S.put]
     refine ⟨_, ?_, ⟨k + 1, rd, f, by omega, hf, hhp, hnd, fun r => ?_, by omega, rfl⟩, ?_⟩
     ·exact (Less.of rfl (by repeat (first | exact trivial | refine ⟨⟨_, rfl, Wk.refl _⟩, ?_⟩ | refine ⟨⟨_, rfl, Wk.nil _ _⟩, ?_⟩ | refine ⟨⟨_, rfl, Wk.junk _⟩, ?_⟩)) (by repeat (first | exact trivial | refine ⟨rfl, ?_⟩)) rfl)
     ·rw [hmem r]
      constructor
      ·rintro ⟨a, b⟩; exact ⟨by omega, b⟩
      ·rintro ⟨a, b⟩
       refine ⟨?_, b⟩
       by_cases e : r = k
       ·subst e; rw [hw] at b; simp at b; omega
       ·omega
     ·simp [S.nat, fnd]; omega
   ·obtain rfl : k = n := by omega
    have hT0 : Tps sts k [] rd W R0 := ⟨⟨by simpa using hnd, fun r => by
     rw [List.nil_append, hmem r]
     constructor
     ·exact fun h => h.2
     ·exact fun h => ⟨by rw [← hWl]; exact (List.getElem?_eq_some_iff.1 h).1, h⟩, hWl⟩, hWg, by simpa using hR0⟩
    clear hmem hnd hrl hkn hWb hWl hWg
    obtain ⟨n, rfl⟩ : ∃ n, n = k := ⟨_, rfl⟩
    refine AW.seq ?_
    refine AW.region ?_
    (first | (refine AL.rp rfl rfl (rp_lssT rfl rfl rfl (by first | assumption | omega | (dsimp only; omega))) ?_) | (refine AL.rp rfl rfl (rp_lssF rfl rfl rfl (by first | assumption | omega | (dsimp only; omega))) ?_) | (refine AL.rp rfl rfl (rp_lss rfl rfl rfl) ?_))
    refine AL.nil ?_
    try simp only [thenS, S.put]
    refine AW.seq ?_
    refine AW.condF rfl ?_
    refine AW.exit ?_
    try simp only [thenS, inBlockS, ↓reduceIte, Nat.reduceEqDiff]
    refine AW.seq ?_
    refine AW.region ?_
    refine AL.rp rfl rfl (rp_assign rfl rfl) ?_
    refine AL.nil ?_
    try simp only [thenS, S.put]
    refine AW.seq ?_
    refine AW.block ?_
    refine AW.adopt 13 100 1 3 rfl (by simp [S.clean, V.has, V.hasL, V.cs, setL]) ?_
    refine AW.loopN (fun μ s' => ∃ (ou rd W : List Nat) (f : Bool), ou.length + μ = n ∧ (f = true → rd = []) ∧ Hp HT.key rd ∧ Tps sts n ou rd W R0 ∧ s' = ⟨110, [(1, .ref 1 0), (5, .own 25 1 n false), (10, .ref 900 0), (13, .own 100 1 ou.length (decide (ou.length = 0)))], hpTl rd f [(1, ⟨24, [.i st, .d (stsD sts)], false, 0⟩), (25, ⟨3, W.map V.n, false, 1⟩), (100, ⟨3, ou.map V.n, decide (ou.length = 0), 1⟩)], []⟩) ⟨n, _, ?_, [], rd, W, f, by simp, hf, hhp, hT0, rfl⟩ ?_
    ·exact (Less.of rfl (by repeat (first | exact trivial | refine ⟨⟨_, rfl, Wk.refl _⟩, ?_⟩ | refine ⟨⟨_, rfl, Wk.nil _ _⟩, ?_⟩ | refine ⟨⟨_, rfl, Wk.junk _⟩, ?_⟩)) (by repeat (first | exact trivial | refine ⟨rfl, ?_⟩)) rfl)
    clear hf hhp hT0
    rintro μ s' ⟨ou, rd, W, f, hol, hf, hhp, hT, rfl⟩
    have hlt := hT.tpo.lt
    have hlen := nodup_len hT.tpo.nodup hlt
    simp only [List.length_append] at hlen
    by_cases hrd : rd.length = 0
    ·obtain rfl : rd = [] := List.length_eq_zero_iff.1 hrd
     have hdone := hT.done hn
     subst hdone
     have htest : ¬ ((([] : List Nat).length : Nat) : Int) > 0 := by simp
     by_cases hlo : ou.length < n
     ·rw [if_pos hlo] at hE
      subst hE
      have htest2 : ((ou.length : Nat) : Int) < (n : Int) := by omega
      refine AW.seq ?_
      refine AW.seq ?_
      refine AW.region ?_
      (first | (refine AL.rd rfl rfl (rd_load_ref Try.underlying99 rfl rfl rfl rfl rfl rfl) ?_) | (refine AL.rd rfl rfl (rd_load_ad Try.underlying99 rfl rfl rfl rfl) ?_) | (refine AL.rd rfl rfl (rd_load_map Try.underlying99 rfl rfl rfl rfl rfl rfl (by assumption)) ?_) | (refine AL.rd rfl rfl (rd_load_flat Try.underlying99 rfl rfl rfl rfl rfl rfl (fun _ => rfl) (by assumption) rfl) ?_))
      (first | (refine AL.rp rfl rfl (rp_len_map Try.underlying99 rfl rfl (by assumption)) ?_) | (refine AL.rp rfl rfl (rp_len_own Try.underlying99 rfl rfl) ?_) | (refine AL.rp rfl rfl (rp_len_sl Try.underlying99 rfl rfl) ?_) | (refine AL.rp rfl rfl (rp_len_nil Try.underlying99 rfl rfl) ?_) | (refine AL.rp rfl rfl (rp_len_str Try.underlying99 rfl rfl) ?_))
      (first | (refine AL.rp rfl rfl (rp_gtrT rfl rfl rfl (by first | assumption | omega | (dsimp only; omega))) ?_) | (refine AL.rp rfl rfl (rp_gtrF rfl rfl rfl (by first | assumption | omega | (dsimp only; omega))) ?_) | (refine AL.rp rfl rfl (rp_gtr rfl rfl rfl) ?_))
      refine AL.nil ?_
      try simp only [thenS, S.put]
      refine AW.condF rfl ?_
      refine AW.exit ?_
      try simp only [thenS, inBlockS, ↓reduceIte, Nat.reduceEqDiff]
      refine AW.seq ?_
      refine AW.seq ?_
      refine AW.region ?_
      refine AL.rp rfl rfl (rp_move rfl rfl) ?_
      (first | (refine AL.rp rfl rfl (rp_len_map Try.underlying29 rfl rfl (by assumption)) ?_) | (refine AL.rp rfl rfl (rp_len_own Try.underlying29 rfl rfl) ?_) | (refine AL.rp rfl rfl (rp_len_sl Try.underlying29 rfl rfl) ?_) | (refine AL.rp rfl rfl (rp_len_nil Try.underlying29 rfl rfl) ?_) | (refine AL.rp rfl rfl (rp_len_str Try.underlying29 rfl rfl) ?_))
      (first | (refine AL.rp rfl rfl (rp_field_ref Try.underlying24 rfl rfl rfl inf22 (by decide) rfl) ?_) | (refine AL.rp rfl rfl (rp_field_ad Try.underlying24 rfl rfl rfl inf22 (by decide) rfl) ?_))
      (first | (refine AL.rd rfl rfl (rd_load_ref Try.underlying22 rfl rfl rfl rfl rfl rfl) ?_) | (refine AL.rd rfl rfl (rd_load_ad Try.underlying22 rfl rfl rfl rfl) ?_) | (refine AL.rd rfl rfl (rd_load_map Try.underlying22 rfl rfl rfl rfl rfl rfl (by assumption)) ?_) | (refine AL.rd rfl rfl (rd_load_flat Try.underlying22 rfl rfl rfl rfl rfl rfl (fun _ => rfl) (by assumption) rfl) ?_))
      (first | (refine AL.rp rfl rfl (rp_len_map Try.underlying22 rfl rfl (by assumption)) ?_) | (refine AL.rp rfl rfl (rp_len_own Try.underlying22 rfl rfl) ?_) | (refine AL.rp rfl rfl (rp_len_sl Try.underlying22 rfl rfl) ?_) | (refine AL.rp rfl rfl (rp_len_nil Try.underlying22 rfl rfl) ?_) | (refine AL.rp rfl rfl (rp_len_str Try.underlying22 rfl rfl) ?_))
      (first | (refine AL.rp rfl rfl (rp_lssT rfl rfl rfl (by first | assumption | omega | (dsimp only; omega))) ?_) | (refine AL.rp rfl rfl (rp_lssF rfl rfl rfl (by first | assumption | omega | (dsimp only; omega))) ?_) | (refine AL.rp rfl rfl (rp_lss rfl rfl rfl) ?_))
      refine AL.nil ?_
      try simp only [thenS, S.put]
      refine AW.condT rfl ?_
      refine AW.seq ?_
      refine AW.region ?_
      refine AL.rp rfl rfl (rp_assign rfl rfl) ?_
      refine AL.rp rfl rfl (rp_assign rfl rfl) ?_
      refine AL.nil ?_
      try simp only [thenS, S.put]
      refine AW.ret ?_
      exact ⟨[_, _], ⟨rfl, rfl, trivial⟩, .inl ⟨by decide, rfl⟩, by simp [tupOf, V.pure, V.has, V.hasL]⟩
     ·rw [if_neg hlo] at hE
      have hR' := hR hE
      subst hE hR'
      have htest2 : ¬ ((R.length : Nat) : Int) < (n : Int) := by omega
      refine AW.seq ?_
      refine AW.seq ?_
      refine AW.region ?_
      (first | (refine AL.rd rfl rfl (rd_load_ref Try.underlying99 rfl rfl rfl rfl rfl rfl) ?_) | (refine AL.rd rfl rfl (rd_load_ad Try.underlying99 rfl rfl rfl rfl) ?_) | (refine AL.rd rfl rfl (rd_load_map Try.underlying99 rfl rfl rfl rfl rfl rfl (by assumption)) ?_) | (refine AL.rd rfl rfl (rd_load_flat Try.underlying99 rfl rfl rfl rfl rfl rfl (fun _ => rfl) (by assumption) rfl) ?_))
      (first | (refine AL.rp rfl rfl (rp_len_map Try.underlying99 rfl rfl (by assumption)) ?_) | (refine AL.rp rfl rfl (rp_len_own Try.underlying99 rfl rfl) ?_) | (refine AL.rp rfl rfl (rp_len_sl Try.underlying99 rfl rfl) ?_) | (refine AL.rp rfl rfl (rp_len_nil Try.underlying99 rfl rfl) ?_) | (refine AL.rp rfl rfl (rp_len_str Try.underlying99 rfl rfl) ?_))
      (first | (refine AL.rp rfl rfl (rp_gtrT rfl rfl rfl (by first | assumption | omega | (dsimp only; omega))) ?_) | (refine AL.rp rfl rfl (rp_gtrF rfl rfl rfl (by first | assumption | omega | (dsimp only; omega))) ?_) | (refine AL.rp rfl rfl (rp_gtr rfl rfl rfl) ?_))
      refine AL.nil ?_
      try simp only [thenS, S.put]
      refine AW.condF rfl ?_
      refine AW.exit ?_
      try simp only [thenS, inBlockS, ↓reduceIte, Nat.reduceEqDiff]
      refine AW.seq ?_
      refine AW.seq ?_
      refine AW.region ?_
      refine AL.rp rfl rfl (rp_move rfl rfl) ?_
      (first | (refine AL.rp rfl rfl (rp_len_map Try.underlying29 rfl rfl (by assumption)) ?_) | (refine AL.rp rfl rfl (rp_len_own Try.underlying29 rfl rfl) ?_) | (refine AL.rp rfl rfl (rp_len_sl Try.underlying29 rfl rfl) ?_) | (refine AL.rp rfl rfl (rp_len_nil Try.underlying29 rfl rfl) ?_) | (refine AL.rp rfl rfl (rp_len_str Try.underlying29 rfl rfl) ?_))
      (first | (refine AL.rp rfl rfl (rp_field_ref Try.underlying24 rfl rfl rfl inf22 (by decide) rfl) ?_) | (refine AL.rp rfl rfl (rp_field_ad Try.underlying24 rfl rfl rfl inf22 (by decide) rfl) ?_))
      (first | (refine AL.rd rfl rfl (rd_load_ref Try.underlying22 rfl rfl rfl rfl rfl rfl) ?_) | (refine AL.rd rfl rfl (rd_load_ad Try.underlying22 rfl rfl rfl rfl) ?_) | (refine AL.rd rfl rfl (rd_load_map Try.underlying22 rfl rfl rfl rfl rfl rfl (by assumption)) ?_) | (refine AL.rd rfl rfl (rd_load_flat Try.underlying22 rfl rfl rfl rfl rfl rfl (fun _ => rfl) (by assumption) rfl) ?_))
      (first | (refine AL.rp rfl rfl (rp_len_map Try.underlying22 rfl rfl (by assumption)) ?_) | (refine AL.rp rfl rfl (rp_len_own Try.underlying22 rfl rfl) ?_) | (refine AL.rp rfl rfl (rp_len_sl Try.underlying22 rfl rfl) ?_) | (refine AL.rp rfl rfl (rp_len_nil Try.underlying22 rfl rfl) ?_) | (refine AL.rp rfl rfl (rp_len_str Try.underlying22 rfl rfl) ?_))
      (first | (refine AL.rp rfl rfl (rp_lssT rfl rfl rfl (by first | assumption | omega | (dsimp only; omega))) ?_) | (refine AL.rp rfl rfl (rp_lssF rfl rfl rfl (by first | assumption | omega | (dsimp only; omega))) ?_) | (refine AL.rp rfl rfl (rp_lss rfl rfl rfl) ?_))
      refine AL.nil ?_
      try simp only [thenS, S.put]
      refine AW.condF rfl ?_
      refine AW.skip ?_
      try simp only [thenS]
      refine AW.seq ?_
      refine AW.freeze 13 8 (R.map encN) rfl rfl rfl (by simp) (by omega) (rows1 rfl) ?_
      refine AW.region ?_
      refine AL.rp rfl rfl (rp_move rfl rfl) ?_
      refine AL.rp rfl rfl (rp_assign rfl rfl) ?_
      refine AL.rp rfl rfl (rp_assign rfl rfl) ?_
      refine AL.nil ?_
      try simp only [thenS, S.put]
      refine AW.ret ?_
      exact ⟨[_, _], ⟨rfl, rfl, trivial⟩, .inr ⟨rfl, rfl⟩, by simp [tupOf, V.pure, V.has, V.hasL]⟩
    ·obtain rfl : f = false := by
      cases f with
      | false => rfl
      | true => rw [hf rfl] at hrd; simp at hrd
     obtain ⟨q, hq⟩ : ∃ q, rd[0]? = some q := ⟨_, List.getElem?_eq_getElem (by omega)⟩
     have hqm := List.mem_of_getElem? hq
     have hqn : q < n := hlt q (by simp [hqm])
     have hqo : q ∉ ou := fun h => (List.nodup_append.1 hT.tpo.nodup).2.2 q h q hqm rfl
     obtain ⟨hol2, hrest⟩ := hT.next hn hqm (fun r hr => by
      obtain ⟨i, hi⟩ := List.getElem?_of_mem hr
      have := hhp.least hq i r hi
      simp only [HT] at this
      omega)
     obtain ⟨x, hx⟩ := get_lt hn hqn
     obtain ⟨la, hla⟩ : ∃ n, x.arcs.length = n := ⟨_, rfl⟩
     have hla' := hal4 x (List.mem_of_getElem? hx)
     rw [hla] at hla'
     have htest : ((rd.length : Nat) : Int) > 0 := by omega
     have hcl : (ou.map V.n).length = ou.length * 1 := by simp
     have hl : Lw [(1, (⟨24, [.i st, .d (stsD sts)], false, 0⟩ : Row)), (25, ⟨3, W.map V.n, false, 1⟩), (100, ⟨3, ou.map V.n, decide (ou.length = 0), 1⟩)] [] := ⟨by simp [V.lowL, V.low, lowL_n], rfl⟩
     have hcnt := hT.cnt
     have hsn := fun r => wN_snoc (sts := sts) (out := ou) (p := q) r hqo n
     have hsa := stA_of hx
     refine AW.seq ?_
     refine AW.seq ?_
     refine AW.region ?_
     (first | (refine AL.rd rfl rfl (rd_load_ref Try.underlying99 rfl rfl rfl rfl rfl rfl) ?_) | (refine AL.rd rfl rfl (rd_load_ad Try.underlying99 rfl rfl rfl rfl) ?_) | (refine AL.rd rfl rfl (rd_load_map Try.underlying99 rfl rfl rfl rfl rfl rfl (by assumption)) ?_) | (refine AL.rd rfl rfl (rd_load_flat Try.underlying99 rfl rfl rfl rfl rfl rfl (fun _ => rfl) (by assumption) rfl) ?_))
     (first | (refine AL.rp rfl rfl (rp_len_map Try.underlying99 rfl rfl (by assumption)) ?_) | (refine AL.rp rfl rfl (rp_len_own Try.underlying99 rfl rfl) ?_) | (refine AL.rp rfl rfl (rp_len_sl Try.underlying99 rfl rfl) ?_) | (refine AL.rp rfl rfl (rp_len_nil Try.underlying99 rfl rfl) ?_) | (refine AL.rp rfl rfl (rp_len_str Try.underlying99 rfl rfl) ?_))
     (first | (refine AL.rp rfl rfl (rp_gtrT rfl rfl rfl (by first | assumption | omega | (dsimp only; omega))) ?_) | (refine AL.rp rfl rfl (rp_gtrF rfl rfl rfl (by first | assumption | omega | (dsimp only; omega))) ?_) | (refine AL.rp rfl rfl (rp_gtr rfl rfl rfl) ?_))
     refine AL.nil ?_
     try simp only [thenS, S.put]
     refine AW.condT rfl ?_
     refine AW.skip ?_
     try simp only [thenS]
     refine AW.block ?_
     refine AW.seq ?_
     refine AW.region ?_
     (first | (refine AL.rp rfl rfl (rp_mkP rfl rfl (fun _ _ => by kernel_rfl)) ?_) | (refine AL.rp rfl rfl (rp_mkA [_] rfl rfl rfl (fun _ _ => by kernel_rfl)) ?_) | (refine AL.rp rfl rfl (rp_mkIfc rfl rfl (fun _ _ => by kernel_rfl)) ?_))
     try simp only [S.put, S.newObj, setL, V.cs, List.length_cons, List.length_nil, List.take_succ_cons, List.take_zero, List.drop_succ_cons, List.drop_zero, List.drop_nil, List.nil_append, List.cons_append, List.append_nil, Nat.zero_add, Nat.reduceAdd]
     refine AL.pc [1, 5, 10, 13] (ts := [_, _, _, _]) (args := [_]) (post := ?pc2) ?hc2 rfl rfl rfl rfl rfl rfl rfl rfl rfl ?_
     case hc2 => (refine am_popT (hl.keepL _ ?_) rd q (by omega) hhp hq <;> first | rfl | (simp [V.lowL, V.low]; done))
     rintro _ _ _ ⟨rfl, rd1, h1, h2, rfl, rfl⟩
     simp only [back, S.put, List.cons_append, List.nil_append, List.zip_cons_cons, List.zip_nil_left, List.drop_succ_cons, List.drop_zero, List.length_cons, List.length_nil, Nat.zero_add, Nat.reduceAdd]
     (first | (refine AL.rp rfl rfl (rp_assert rfl Try.underlying3 (by intro m h; cases h) rfl) ?_) | (refine AL.rp rfl rfl (rp_assertA [_] rfl Try.underlying3 (by intro m h; cases h) rfl) ?_))
     refine AL.rp rfl rfl (rp_assign rfl rfl) ?_
     refine AL.nil ?_
     try simp only [thenS, S.put]
     refine AW.seq ?_
     refine AW.region ?_
     refine AL.rp rfl rfl (rp_move rfl rfl) ?_
     refine AL.rp rfl rfl (rp_move rfl rfl) ?_
     refine AL.sm rfl (sm_slice (vs := [(0, _)]) (zs := [.d (.p (.int .i64 0))]) 71 Try.underlying29 inf3 rfl rfl (by decide) (by decide) (by decide) rfl rfl rfl rfl (by first | rfl | simp [S.clean, S.put, S.newObj, S.forget, V.has, V.hasL, junkIf, setL, V.cs, hasL_i, hasL_b, hasL_s, hasL_n, hasL_rep, hasL_flat, hasL_append, -List.map_set]) (by first | rfl | simp [S.clean, S.put, S.newObj, S.forget, V.has, V.hasL, junkIf, setL, V.cs, hasL_i, hasL_b, hasL_s, hasL_n, hasL_rep, hasL_flat, hasL_append, -List.map_set]) rfl) ?_
     refine AL.st rfl (st_appendF Try.underlying29 inf3 rfl (by decide) rfl rfl rfl rfl rfl rfl (by first | assumption | rfl | (simp; done)) (by first | rfl | simp [S.clean, S.put, S.newObj, S.forget, V.has, V.hasL, junkIf, setL, V.cs, hasL_i, hasL_b, hasL_s, hasL_n, hasL_rep, hasL_flat, hasL_append, -List.map_set]) rfl rfl rfl rfl rfl (by first | rfl | simp [S.clean, S.put, S.newObj, S.forget, V.has, V.hasL, junkIf, setL, V.cs, hasL_i, hasL_b, hasL_s, hasL_n, hasL_rep, hasL_flat, hasL_append, -List.map_set]) rfl (by decide) (by omega) (by omega) rfl) ?_
     simp only [S.forget, S.put, S.newObj, junkIf, V.has, V.hasL, hasL_i, hasL_b, hasL_s, hasL_d, hasL_n, hasL_rep, hasL_flat, hasL_append, List.map_cons, List.map_nil, List.filter_cons, List.filter_nil, Nat.reduceBNe, Nat.reduceBEq, eq_self, bne_self_eq_false,  Bool.not_true, Bool.not_false, Bool.or_false, Bool.or_true, Bool.false_or, Bool.true_or, if_true, if_false, Bool.false_eq_true, ite_true, ite_false, ↓reduceIte, beq_self_eq_true, Nat.reduceEqDiff]
     refine AL.rp rfl rfl (rp_assign rfl rfl) ?_
     refine AL.nil ?_
     try simp only [thenS, S.put, S.newObj, setL, V.cs, List.length_cons, List.length_nil, List.take_succ_cons, List.take_zero, List.drop_succ_cons, List.drop_zero, List.drop_nil, List.nil_append, List.cons_append, List.append_nil, Nat.zero_add, Nat.reduceAdd, List.map_cons, List.map_nil, List.set_cons_zero, List.set_cons_succ]
     refine AW.seq ?_
     refine AW.region ?_
     (first | (refine AL.rp rfl rfl (rp_field_ref Try.underlying24 rfl rfl rfl inf22 (by decide) rfl) ?_) | (refine AL.rp rfl rfl (rp_field_ad Try.underlying24 rfl rfl rfl inf22 (by decide) rfl) ?_))
     (first | (refine AL.rd rfl rfl (rd_load_ref Try.underlying22 rfl rfl rfl rfl rfl rfl) ?_) | (refine AL.rd rfl rfl (rd_load_ad Try.underlying22 rfl rfl rfl rfl) ?_) | (refine AL.rd rfl rfl (rd_load_map Try.underlying22 rfl rfl rfl rfl rfl rfl (by assumption)) ?_) | (refine AL.rd rfl rfl (rd_load_flat Try.underlying22 rfl rfl rfl rfl rfl rfl (fun _ => rfl) (by assumption) rfl) ?_))
     refine AL.rp rfl rfl (rp_move rfl rfl) ?_
     (first | (refine AL.rp rfl rfl (rp_index_map Try.underlying22 inf69 rfl rfl rfl rfl (by assumption)) ?_) | (refine AL.rp rfl rfl (rp_index_own Try.underlying22 inf69 rfl rfl rfl rfl (by first | assumption | omega)) ?_) | (refine AL.rp rfl rfl (rd_index_sl Try.underlying22 inf69 rfl rfl rfl rfl (by assumption)) ?_) | (refine AL.rp rfl rfl (rp_index_own Try.underlying22 inf69 rfl rfl rfl (by omega) (by omega)) ?_))
     (first | (refine AL.rp rfl rfl (rp_field_ref Try.underlying69 rfl rfl rfl inf67 (by decide) rfl) ?_) | (refine AL.rp rfl rfl (rp_field_ad Try.underlying69 rfl rfl rfl inf67 (by decide) rfl) ?_))
     (first | (refine AL.rd rfl rfl (rd_load_ref Try.underlying67 rfl rfl rfl rfl rfl rfl) ?_) | (refine AL.rd rfl rfl (rd_load_ad Try.underlying67 rfl rfl rfl rfl) ?_) | (refine AL.rd rfl rfl (rd_load_map Try.underlying67 rfl rfl rfl rfl rfl rfl (by assumption)) ?_) | (refine AL.rd rfl rfl (rd_load_flat Try.underlying67 rfl rfl rfl rfl rfl rfl (fun _ => rfl) (by assumption) rfl) ?_))
     (first | (refine AL.rp rfl rfl (rp_len_map Try.underlying67 rfl rfl (by assumption)) ?_) | (refine AL.rp rfl rfl (rp_len_own Try.underlying67 rfl rfl) ?_) | (refine AL.rp rfl rfl (rp_len_sl Try.underlying67 rfl rfl) ?_) | (refine AL.rp rfl rfl (rp_len_nil Try.underlying67 rfl rfl) ?_) | (refine AL.rp rfl rfl (rp_len_str Try.underlying67 rfl rfl) ?_))
     refine AL.rp rfl rfl (rp_move rfl rfl) ?_
     refine AL.nil ?_
     try simp only [thenS, S.put]
     refine AW.block ?_
     have hP0 := hT.tpo.pop h2
     have hrest' : ordL sts (n - (ou ++ [q]).length) (ou ++ [q]) = R0 := hrest
     refine AW.loop (fun s' => ∃ (i : Nat) (rd W : List Nat), i ≤ la ∧ Hp HT.key rd ∧ Tpo n (ou ++ [q]) rd W ∧ (∀ r, r < n → W[r]? = some (wN sts ou r n - cntT (x.arcs.take i) r)) ∧ s' = ⟨110, [(1, .ref 1 0), (5, .own 25 1 n false), (10, .ref 900 0), (13, .own 100 1 (ou.length + 1) false), (78, .d (arsD x.arcs)), (79, .i la), (80, .i i)], hpTl rd false [(1, ⟨24, [.i st, .d (stsD sts)], false, 0⟩), (25, ⟨3, W.map V.n, false, 1⟩), (100, ⟨3, ou.map V.n ++ [.i q], false, 1⟩)], []⟩) (fun s' => la - s'.nat 80) ⟨_, ?_, 0, rd1, W, by omega, h1, hP0, fun r hr => by rw [hcnt r hr]; simp [cntT], rfl⟩ ?_
     ·exact (Less.of rfl (by repeat (first | exact trivial | refine ⟨⟨_, rfl, Wk.refl _⟩, ?_⟩ | refine ⟨⟨_, rfl, Wk.nil _ _⟩, ?_⟩ | refine ⟨⟨_, rfl, Wk.junk _⟩, ?_⟩)) (by repeat (first | exact trivial | refine ⟨rfl, ?_⟩)) rfl)
     rintro s' ⟨i, rd2, W2, hi, hh2, hP, hc2, rfl⟩
     by_cases hil : i < la
     ·obtain ⟨y, hy⟩ := get_lt hla hil
      have hyt := (hz x (List.mem_of_getElem? hx)).2 y (List.mem_of_getElem? hy)
      have hcs := fun r => cntT_snoc hy r
      have hcp := fun (t : Nat) (h : y.t = (t : Int)) => cntT_pos hy h
      obtain ⟨yi, yo, yw, yt⟩ := y
      simp only [arOk, decide_eq_true_eq] at hyt
      obtain ⟨t, rfl⟩ : ∃ p : Nat, yt = p := ⟨yt.toNat, by omega⟩
      have htn : t < n := by omega
      have hc := hc2 t htn
      have hcp' := hcp t rfl
      have hs := hsn t
      rw [if_pos hqn, hsa] at hs
      have h400' := h4 ou t n (Nat.le_refl _)
      obtain ⟨w, hw⟩ : ∃ w, wN sts ou t n - cntT (x.arcs.take i) t = w + 1 := ⟨wN sts ou t n - cntT (x.arcs.take i) t - 1, by omega⟩
      rw [hw] at hc
      have hwb : w ≤ 400 := by omega
      have hwl : t < W2.length := (List.getElem?_eq_some_iff.1 hc).1
      have hset : (W2.set t w)[t]? = some w := by rw [List.getElem?_set_self hwl]
      have hwn : w = wN sts ou t n - cntT (x.arcs.take (i + 1)) t := by rw [hcs t]; simp only [if_true]; omega
      have hc3 : ∀ r, r < n → (W2.set t w)[r]? = some (wN sts ou r n - cntT (x.arcs.take (i + 1)) r) := fun r hr => by
       rw [List.getElem?_set]
       by_cases e : t = r
       ·subst e; rw [if_pos rfl, if_pos hwl, hwn]
       ·rw [if_neg e, hc2 r hr, hcs r, if_neg (by simp only; omega)]; simp
      clear hw hwn hs hcp' hcp hcs hc2
      by_cases hw0 : w = 0
      ·subst hw0
       have htest : ((0 : Nat) : Int) = 0 := rfl
       have hl2 : Lw [(1, (⟨24, [.i st, .d (stsD sts)], false, 0⟩ : Row)), (25, ⟨3, (W2.set t 0).map V.n, false, 1⟩), (100, ⟨3, ou.map V.n ++ [.i q], false, 1⟩), (16, ⟨79, [.i yi, .i yo, .i yw, .i t], false, 0⟩)] [] := ⟨by simp [V.lowL, V.low, lowL_n, lowL_app, -List.map_set], rfl⟩
       have hr2 : rd2.length < 1000000 := by
        have h5 := nodup_len hP.nodup hP.lt
        simp only [List.length_append] at h5
        omega
       refine AW.seq ?_
       refine AW.region ?_
       (first | (refine AL.rp rfl rfl (rp_lssT rfl rfl rfl (by first | assumption | omega | (dsimp only; omega))) ?_) | (refine AL.rp rfl rfl (rp_lssF rfl rfl rfl (by first | assumption | omega | (dsimp only; omega))) ?_) | (refine AL.rp rfl rfl (rp_lss rfl rfl rfl) ?_))
       refine AL.nil ?_
       try simp only [thenS, S.put]
       refine AW.seq ?_
       refine AW.condT rfl ?_
       refine AW.skip ?_
       try simp only [thenS]
       refine AW.seq ?_
       refine AW.block ?_
       refine AW.seq ?_
       refine AW.region ?_
       (first | (refine AL.rp rfl rfl (rp_index_map Try.underlying67 inf79 rfl rfl rfl rfl (by assumption)) ?_) | (refine AL.rp rfl rfl (rp_index_own Try.underlying67 inf79 rfl rfl rfl rfl (by first | assumption | omega)) ?_) | (refine AL.rp rfl rfl (rd_index_sl Try.underlying67 inf79 rfl rfl rfl rfl (by assumption)) ?_) | (refine AL.rp rfl rfl (rp_index_own Try.underlying67 inf79 rfl rfl rfl (by omega) (by omega)) ?_))
       (first | (refine AL.rd rfl rfl (rd_loads_ref Try.underlying79 rfl inf79 rfl rfl rfl rfl rfl rfl) ?_) | (refine AL.rd rfl rfl (rd_loads_ad Try.underlying79 rfl inf79 rfl rfl rfl rfl) ?_))
       refine AL.sm rfl (sm_alloc (l := [.d (.p (.int .i64 0)), .d (.p (.int .i64 0)), .d (.p (.int .i64 0)), .d (.p (.int .i64 0))]) 16 inf79 rfl (by first | rfl | simp [S.clean, S.put, S.newObj, S.forget, V.has, V.hasL, junkIf, setL, V.cs, hasL_i, hasL_b, hasL_s, hasL_n, hasL_rep, hasL_flat, hasL_append, -List.map_set]) rfl rfl) ?_
       refine AL.st rfl (st_store_any inf79 rfl rfl rfl rfl rfl rfl rfl rfl (by first | decide | (simp; done) | (simp; omega)) rfl) ?_
       refine AL.nil ?_
       try simp only [thenS, S.put, S.newObj, setL, V.cs, List.length_cons, List.length_nil, List.take_succ_cons, List.take_zero, List.drop_succ_cons, List.drop_zero, List.drop_nil, List.nil_append, List.cons_append, List.append_nil, Nat.zero_add, Nat.reduceAdd, List.map_cons, List.map_nil, List.set_cons_zero, List.set_cons_succ]
       refine AW.seq ?_
       refine AW.region ?_
       refine AL.rp rfl rfl (rp_move rfl rfl) ?_
       (first | (refine AL.rp rfl rfl (rp_field_ref Try.underlying79 rfl rfl rfl inf3 (by decide) rfl) ?_) | (refine AL.rp rfl rfl (rp_field_ad Try.underlying79 rfl rfl rfl inf3 (by decide) rfl) ?_))
       (first | (refine AL.rd rfl rfl (rd_load_ref Try.underlying3 rfl rfl rfl rfl rfl rfl) ?_) | (refine AL.rd rfl rfl (rd_load_ad Try.underlying3 rfl rfl rfl rfl) ?_) | (refine AL.rd rfl rfl (rd_load_map Try.underlying3 rfl rfl rfl rfl rfl rfl (by assumption)) ?_) | (refine AL.rd rfl rfl (rd_load_flat Try.underlying3 rfl rfl rfl rfl rfl rfl (fun _ => rfl) (by assumption) rfl) ?_))
       (first | (refine AL.rp rfl rfl (rp_index_map Try.underlying29 inf3 rfl rfl rfl rfl (by assumption)) ?_) | (refine AL.rp rfl rfl (rp_index_own Try.underlying29 inf3 rfl rfl rfl rfl (by first | assumption | omega)) ?_) | (refine AL.rp rfl rfl (rd_index_sl Try.underlying29 inf3 rfl rfl rfl rfl (by assumption)) ?_) | (refine AL.rp rfl rfl (rp_index_own Try.underlying29 inf3 rfl rfl rfl (by omega) (by omega)) ?_))
       (first | (refine AL.rd rfl rfl (rd_load_ref Try.underlying3 rfl rfl rfl rfl rfl rfl) ?_) | (refine AL.rd rfl rfl (rd_load_ad Try.underlying3 rfl rfl rfl rfl) ?_) | (refine AL.rd rfl rfl (rd_load_map Try.underlying3 rfl rfl rfl rfl rfl rfl (by assumption)) ?_) | (refine AL.rd rfl rfl (rd_load_flat Try.underlying3 rfl rfl rfl rfl rfl rfl (fun _ => rfl) (by assumption) rfl) ?_))
       refine AL.rp rfl rfl (rp_subZ (((0 : Nat) : Int)) rfl rfl rfl (by omega) (by omega)) ?_
       (first | (refine AL.rp rfl rfl (rp_index_map Try.underlying29 inf3 rfl rfl rfl rfl (by assumption)) ?_) | (refine AL.rp rfl rfl (rp_index_own Try.underlying29 inf3 rfl rfl rfl rfl (by first | assumption | omega)) ?_) | (refine AL.rp rfl rfl (rd_index_sl Try.underlying29 inf3 rfl rfl rfl rfl (by assumption)) ?_) | (refine AL.rp rfl rfl (rp_index_own Try.underlying29 inf3 rfl rfl rfl (by omega) (by omega)) ?_))
       refine AL.st rfl (st_store_map2 (v := 0) inf3 rfl rfl rfl rfl rfl rfl rfl rfl (by first | assumption | omega)) ?_
       refine AL.nil ?_
       try simp only [thenS, S.put, S.newObj, setL, V.cs, List.length_cons, List.length_nil, List.take_succ_cons, List.take_zero, List.drop_succ_cons, List.drop_zero, List.drop_nil, List.nil_append, List.cons_append, List.append_nil, Nat.zero_add, Nat.reduceAdd, List.map_cons, List.map_nil, List.set_cons_zero, List.set_cons_succ]
       refine AW.seq ?_
       refine AW.region ?_
       refine AL.rp rfl rfl (rp_move rfl rfl) ?_
       (first | (refine AL.rp rfl rfl (rp_field_ref Try.underlying79 rfl rfl rfl inf3 (by decide) rfl) ?_) | (refine AL.rp rfl rfl (rp_field_ad Try.underlying79 rfl rfl rfl inf3 (by decide) rfl) ?_))
       (first | (refine AL.rd rfl rfl (rd_load_ref Try.underlying3 rfl rfl rfl rfl rfl rfl) ?_) | (refine AL.rd rfl rfl (rd_load_ad Try.underlying3 rfl rfl rfl rfl) ?_) | (refine AL.rd rfl rfl (rd_load_map Try.underlying3 rfl rfl rfl rfl rfl rfl (by assumption)) ?_) | (refine AL.rd rfl rfl (rd_load_flat Try.underlying3 rfl rfl rfl rfl rfl rfl (fun _ => rfl) (by assumption) rfl) ?_))
       (first | (refine AL.rp rfl rfl (rp_index_map Try.underlying29 inf3 rfl rfl rfl rfl (by assumption)) ?_) | (refine AL.rp rfl rfl (rp_index_own Try.underlying29 inf3 rfl rfl rfl rfl (by first | assumption | omega)) ?_) | (refine AL.rp rfl rfl (rd_index_sl Try.underlying29 inf3 rfl rfl rfl rfl (by assumption)) ?_) | (refine AL.rp rfl rfl (rp_index_own Try.underlying29 inf3 rfl rfl rfl (by omega) (by omega)) ?_))
       (first | (refine AL.rd rfl rfl (rd_load_ref Try.underlying3 rfl rfl rfl rfl rfl rfl) ?_) | (refine AL.rd rfl rfl (rd_load_ad Try.underlying3 rfl rfl rfl rfl) ?_) | (refine AL.rd rfl rfl (rd_load_map Try.underlying3 rfl rfl rfl rfl rfl rfl (by assumption)) ?_) | (refine AL.rd rfl rfl (rd_load_flat Try.underlying3 rfl rfl rfl rfl rfl rfl (fun _ => rfl) (by assumption) rfl) ?_))
       (first | (refine AL.rp rfl rfl (rp_eqlT rfl rfl rfl (by first | assumption | omega | (dsimp only; omega))) ?_) | (refine AL.rp rfl rfl (rp_eqlF rfl rfl rfl (by first | assumption | omega | (dsimp only; omega))) ?_) | (refine AL.rp rfl rfl (rp_eql rfl rfl rfl) ?_))
       refine AL.nil ?_
       try simp only [thenS, S.put]
       refine AW.condT rfl ?_
       refine AW.less (Less.hp (T := [(1, _), (5, _), (10, _), (13, _), (16, _), (78, _), (79, _), (80, _)]) (H0 := [(1, _), (25, _), (100, _), (16, _)]) (by repeat (first | exact trivial | refine ⟨⟨_, rfl, Wk.refl _⟩, ?_⟩)) rfl rfl (LH.of (by repeat (first | exact trivial | refine ⟨rfl, ?_⟩)))) ?_
       refine AW.region ?_
       (first | (refine AL.rp rfl rfl (rp_mkP rfl rfl (fun _ _ => by kernel_rfl)) ?_) | (refine AL.rp rfl rfl (rp_mkA [_] rfl rfl rfl (fun _ _ => by kernel_rfl)) ?_) | (refine AL.rp rfl rfl (rp_mkIfc rfl rfl (fun _ _ => by kernel_rfl)) ?_))
       (first | (refine AL.rp rfl rfl (rp_field_ref Try.underlying79 rfl rfl rfl inf3 (by decide) rfl) ?_) | (refine AL.rp rfl rfl (rp_field_ad Try.underlying79 rfl rfl rfl inf3 (by decide) rfl) ?_))
       (first | (refine AL.rd rfl rfl (rd_load_ref Try.underlying3 rfl rfl rfl rfl rfl rfl) ?_) | (refine AL.rd rfl rfl (rd_load_ad Try.underlying3 rfl rfl rfl rfl) ?_) | (refine AL.rd rfl rfl (rd_load_map Try.underlying3 rfl rfl rfl rfl rfl rfl (by assumption)) ?_) | (refine AL.rd rfl rfl (rd_load_flat Try.underlying3 rfl rfl rfl rfl rfl rfl (fun _ => rfl) (by assumption) rfl) ?_))
       (first | (refine AL.rp rfl rfl (rp_mkP rfl rfl (fun _ _ => by kernel_rfl)) ?_) | (refine AL.rp rfl rfl (rp_mkA [_] rfl rfl rfl (fun _ _ => by kernel_rfl)) ?_) | (refine AL.rp rfl rfl (rp_mkIfc rfl rfl (fun _ _ => by kernel_rfl)) ?_))
       try simp only [S.put, S.newObj, setL, V.cs, List.length_cons, List.length_nil, List.take_succ_cons, List.take_zero, List.drop_succ_cons, List.drop_zero, List.drop_nil, List.nil_append, List.cons_append, List.append_nil, Nat.zero_add, Nat.reduceAdd]
       refine AL.pc [1, 5, 10, 13, 78, 79, 80] (ts := [_, _, _, _, _, _, _]) (args := [_, _]) (post := ?pc3) ?hc3 rfl rfl rfl rfl rfl rfl rfl rfl rfl ?_
       case hc3 => (refine am_pushT (hl2.keepL _ ?_) rd2 false t hr2 hh2 <;> first | rfl | (simp [V.lowL, V.low]; done))
       rintro _ _ _ ⟨rd3, k1, k2, rfl, rfl⟩
       simp only [back, S.put, List.cons_append, List.nil_append, List.zip_cons_cons, List.zip_nil_left, List.drop_succ_cons, List.drop_zero, List.length_cons, List.length_nil, Nat.zero_add, Nat.reduceAdd]
       refine AL.nil ?_
       try simp only [thenS, S.put]
       refine AW.region ?_
       refine AL.rp rfl rfl (rp_add rfl rfl rfl (by first | omega | (dsimp only; omega))) ?_
       refine AL.rp rfl rfl (rp_move rfl rfl) ?_
       refine AL.nil ?_
       try simp only [thenS, S.put]
       refine ⟨_, ?_, ⟨i + 1, rd3, W2.set t 0, by omega, k1, hP.zero hc k2, hc3, rfl⟩, ?_⟩
       ·exact (Less.of rfl (by repeat (first | exact trivial | refine ⟨⟨_, rfl, Wk.refl _⟩, ?_⟩ | refine ⟨⟨_, rfl, Wk.nil _ _⟩, ?_⟩ | refine ⟨⟨_, rfl, Wk.junk _⟩, ?_⟩)) (by repeat (first | exact trivial | refine ⟨rfl, ?_⟩)) rfl)
       ·simp [S.nat, fnd]; omega
      ·have htest : ¬ ((w : Nat) : Int) = 0 := by omega
       have hP' := hP.dec hc hw0
       refine AW.seq ?_
       refine AW.region ?_
       (first | (refine AL.rp rfl rfl (rp_lssT rfl rfl rfl (by first | assumption | omega | (dsimp only; omega))) ?_) | (refine AL.rp rfl rfl (rp_lssF rfl rfl rfl (by first | assumption | omega | (dsimp only; omega))) ?_) | (refine AL.rp rfl rfl (rp_lss rfl rfl rfl) ?_))
       refine AL.nil ?_
       try simp only [thenS, S.put]
       refine AW.seq ?_
       refine AW.condT rfl ?_
       refine AW.skip ?_
       try simp only [thenS]
       refine AW.seq ?_
       refine AW.block ?_
       refine AW.seq ?_
       refine AW.region ?_
       (first | (refine AL.rp rfl rfl (rp_index_map Try.underlying67 inf79 rfl rfl rfl rfl (by assumption)) ?_) | (refine AL.rp rfl rfl (rp_index_own Try.underlying67 inf79 rfl rfl rfl rfl (by first | assumption | omega)) ?_) | (refine AL.rp rfl rfl (rd_index_sl Try.underlying67 inf79 rfl rfl rfl rfl (by assumption)) ?_) | (refine AL.rp rfl rfl (rp_index_own Try.underlying67 inf79 rfl rfl rfl (by omega) (by omega)) ?_))
       (first | (refine AL.rd rfl rfl (rd_loads_ref Try.underlying79 rfl inf79 rfl rfl rfl rfl rfl rfl) ?_) | (refine AL.rd rfl rfl (rd_loads_ad Try.underlying79 rfl inf79 rfl rfl rfl rfl) ?_))
       refine AL.sm rfl (sm_alloc (l := [.d (.p (.int .i64 0)), .d (.p (.int .i64 0)), .d (.p (.int .i64 0)), .d (.p (.int .i64 0))]) 16 inf79 rfl (by first | rfl | simp [S.clean, S.put, S.newObj, S.forget, V.has, V.hasL, junkIf, setL, V.cs, hasL_i, hasL_b, hasL_s, hasL_n, hasL_rep, hasL_flat, hasL_append, -List.map_set]) rfl rfl) ?_
       refine AL.st rfl (st_store_any inf79 rfl rfl rfl rfl rfl rfl rfl rfl (by first | decide | (simp; done) | (simp; omega)) rfl) ?_
       refine AL.nil ?_
       try simp only [thenS, S.put, S.newObj, setL, V.cs, List.length_cons, List.length_nil, List.take_succ_cons, List.take_zero, List.drop_succ_cons, List.drop_zero, List.drop_nil, List.nil_append, List.cons_append, List.append_nil, Nat.zero_add, Nat.reduceAdd, List.map_cons, List.map_nil, List.set_cons_zero, List.set_cons_succ]
       refine AW.seq ?_
       refine AW.region ?_
       refine AL.rp rfl rfl (rp_move rfl rfl) ?_
       (first | (refine AL.rp rfl rfl (rp_field_ref Try.underlying79 rfl rfl rfl inf3 (by decide) rfl) ?_) | (refine AL.rp rfl rfl (rp_field_ad Try.underlying79 rfl rfl rfl inf3 (by decide) rfl) ?_))
       (first | (refine AL.rd rfl rfl (rd_load_ref Try.underlying3 rfl rfl rfl rfl rfl rfl) ?_) | (refine AL.rd rfl rfl (rd_load_ad Try.underlying3 rfl rfl rfl rfl) ?_) | (refine AL.rd rfl rfl (rd_load_map Try.underlying3 rfl rfl rfl rfl rfl rfl (by assumption)) ?_) | (refine AL.rd rfl rfl (rd_load_flat Try.underlying3 rfl rfl rfl rfl rfl rfl (fun _ => rfl) (by assumption) rfl) ?_))
       (first | (refine AL.rp rfl rfl (rp_index_map Try.underlying29 inf3 rfl rfl rfl rfl (by assumption)) ?_) | (refine AL.rp rfl rfl (rp_index_own Try.underlying29 inf3 rfl rfl rfl rfl (by first | assumption | omega)) ?_) | (refine AL.rp rfl rfl (rd_index_sl Try.underlying29 inf3 rfl rfl rfl rfl (by assumption)) ?_) | (refine AL.rp rfl rfl (rp_index_own Try.underlying29 inf3 rfl rfl rfl (by omega) (by omega)) ?_))
       (first | (refine AL.rd rfl rfl (rd_load_ref Try.underlying3 rfl rfl rfl rfl rfl rfl) ?_) | (refine AL.rd rfl rfl (rd_load_ad Try.underlying3 rfl rfl rfl rfl) ?_) | (refine AL.rd rfl rfl (rd_load_map Try.underlying3 rfl rfl rfl rfl rfl rfl (by assumption)) ?_) | (refine AL.rd rfl rfl (rd_load_flat Try.underlying3 rfl rfl rfl rfl rfl rfl (fun _ => rfl) (by assumption) rfl) ?_))
       refine AL.rp rfl rfl (rp_subZ ((w : Int)) rfl rfl rfl (by omega) (by omega)) ?_
       (first | (refine AL.rp rfl rfl (rp_index_map Try.underlying29 inf3 rfl rfl rfl rfl (by assumption)) ?_) | (refine AL.rp rfl rfl (rp_index_own Try.underlying29 inf3 rfl rfl rfl rfl (by first | assumption | omega)) ?_) | (refine AL.rp rfl rfl (rd_index_sl Try.underlying29 inf3 rfl rfl rfl rfl (by assumption)) ?_) | (refine AL.rp rfl rfl (rp_index_own Try.underlying29 inf3 rfl rfl rfl (by omega) (by omega)) ?_))
       refine AL.st rfl (st_store_map2 (v := w) inf3 rfl rfl rfl rfl rfl rfl rfl rfl (by first | assumption | omega)) ?_
       refine AL.nil ?_
       try simp only [thenS, S.put, S.newObj, setL, V.cs, List.length_cons, List.length_nil, List.take_succ_cons, List.take_zero, List.drop_succ_cons, List.drop_zero, List.drop_nil, List.nil_append, List.cons_append, List.append_nil, Nat.zero_add, Nat.reduceAdd, List.map_cons, List.map_nil, List.set_cons_zero, List.set_cons_succ]
       refine AW.seq ?_
       refine AW.region ?_
       refine AL.rp rfl rfl (rp_move rfl rfl) ?_
       (first | (refine AL.rp rfl rfl (rp_field_ref Try.underlying79 rfl rfl rfl inf3 (by decide) rfl) ?_) | (refine AL.rp rfl rfl (rp_field_ad Try.underlying79 rfl rfl rfl inf3 (by decide) rfl) ?_))
       (first | (refine AL.rd rfl rfl (rd_load_ref Try.underlying3 rfl rfl rfl rfl rfl rfl) ?_) | (refine AL.rd rfl rfl (rd_load_ad Try.underlying3 rfl rfl rfl rfl) ?_) | (refine AL.rd rfl rfl (rd_load_map Try.underlying3 rfl rfl rfl rfl rfl rfl (by assumption)) ?_) | (refine AL.rd rfl rfl (rd_load_flat Try.underlying3 rfl rfl rfl rfl rfl rfl (fun _ => rfl) (by assumption) rfl) ?_))
       (first | (refine AL.rp rfl rfl (rp_index_map Try.underlying29 inf3 rfl rfl rfl rfl (by assumption)) ?_) | (refine AL.rp rfl rfl (rp_index_own Try.underlying29 inf3 rfl rfl rfl rfl (by first | assumption | omega)) ?_) | (refine AL.rp rfl rfl (rd_index_sl Try.underlying29 inf3 rfl rfl rfl rfl (by assumption)) ?_) | (refine AL.rp rfl rfl (rp_index_own Try.underlying29 inf3 rfl rfl rfl (by omega) (by omega)) ?_))
       (first | (refine AL.rd rfl rfl (rd_load_ref Try.underlying3 rfl rfl rfl rfl rfl rfl) ?_) | (refine AL.rd rfl rfl (rd_load_ad Try.underlying3 rfl rfl rfl rfl) ?_) | (refine AL.rd rfl rfl (rd_load_map Try.underlying3 rfl rfl rfl rfl rfl rfl (by assumption)) ?_) | (refine AL.rd rfl rfl (rd_load_flat Try.underlying3 rfl rfl rfl rfl rfl rfl (fun _ => rfl) (by assumption) rfl) ?_))
       (first | (refine AL.rp rfl rfl (rp_eqlT rfl rfl rfl (by first | assumption | omega | (dsimp only; omega))) ?_) | (refine AL.rp rfl rfl (rp_eqlF rfl rfl rfl (by first | assumption | omega | (dsimp only; omega))) ?_) | (refine AL.rp rfl rfl (rp_eql rfl rfl rfl) ?_))
       refine AL.nil ?_
       try simp only [thenS, S.put]
       refine AW.condF rfl ?_
       refine AW.skip ?_
       try simp only [thenS]
       refine AW.region ?_
       refine AL.rp rfl rfl (rp_add rfl rfl rfl (by first | omega | (dsimp only; omega))) ?_
       refine AL.rp rfl rfl (rp_move rfl rfl) ?_
       refine AL.nil ?_
       try simp only [thenS, S.put]
       refine ⟨_, ?_, ⟨i + 1, rd2, W2.set t w, by omega, hh2, hP', hc3, rfl⟩, ?_⟩
       ·exact (Less.of rfl (by repeat (first | exact trivial | refine ⟨⟨_, rfl, Wk.refl _⟩, ?_⟩ | refine ⟨⟨_, rfl, Wk.nil _ _⟩, ?_⟩ | refine ⟨⟨_, rfl, Wk.junk _⟩, ?_⟩)) (by repeat (first | exact trivial | refine ⟨rfl, ?_⟩)) rfl)
       ·simp [S.nat, fnd]; omega
     ·have hc3 : ∀ r, r < n → W2[r]? = some (wN sts (ou ++ [q]) r n) := fun r hr => by
       rw [hc2 r hr, List.take_of_length_le (by omega)]
       have := hsn r
       rw [if_pos hqn, hsa] at this
       rw [this]; simp
      refine AW.seq ?_
      refine AW.region ?_
      (first | (refine AL.rp rfl rfl (rp_lssT rfl rfl rfl (by first | assumption | omega | (dsimp only; omega))) ?_) | (refine AL.rp rfl rfl (rp_lssF rfl rfl rfl (by first | assumption | omega | (dsimp only; omega))) ?_) | (refine AL.rp rfl rfl (rp_lss rfl rfl rfl) ?_))
      refine AL.nil ?_
      try simp only [thenS, S.put]
      refine AW.seq ?_
      refine AW.condF rfl ?_
      refine AW.exit ?_
      try simp only [thenS, inBlockS, ↓reduceIte, Nat.reduceEqDiff]
      refine ⟨μ - 1, _, ?_, ⟨ou ++ [q], rd2, W2, false, by simp; omega, (fun h => by cases h), hh2, ⟨hP, hc3, hrest'⟩, rfl⟩, by omega⟩
      rw [List.map_append]
      simp only [List.length_append, List.length_cons, List.length_nil, Nat.zero_add]
      exact (Less.of rfl (by repeat (first | exact trivial | refine ⟨⟨_, rfl, Wk.refl _⟩, ?_⟩ | refine ⟨⟨_, rfl, Wk.nil _ _⟩, ?_⟩ | refine ⟨⟨_, rfl, Wk.junk _⟩, ?_⟩)) (by repeat (first | exact trivial | refine ⟨rfl, ?_⟩)) rfl)
 ·have hE : ordE m = machE m := by unfold ordE; rw [if_pos h0]
  rw [hE]
  obtain ⟨st, sts⟩ := m
  obtain ⟨e, he⟩ : ∃ e, machE ⟨st, sts⟩ = e := ⟨_, rfl⟩
  rw [he] at h0 ⊢
  refine Fn.intro (n := 110) ⟨Try.func33, rfl, rfl, rfl, rfl⟩ (by simp [V.pure, V.has, V.hasL]) (by simp) fun w0 out => ?_
  refine AW.seq ?_
  refine AW.region ?_
  refine AL.sm rfl (sm_box 1 rfl rfl rfl (by first | rfl | simp [S.clean, S.put, S.newObj, S.forget, V.has, V.hasL, junkIf, setL, V.cs, hasL_i, hasL_b, hasL_s, hasL_n, hasL_rep, hasL_flat, hasL_append, -List.map_set]) rfl) ?_
  refine AL.rp rfl rfl (rp_assign rfl rfl) ?_
  refine AL.rp rfl rfl (rp_assign rfl rfl) ?_
  refine AL.nil ?_
  try simp only [thenS, S.put, S.newObj, setL, V.cs, List.length_cons, List.length_nil, List.take_succ_cons, List.take_zero, List.drop_succ_cons, List.drop_zero, List.drop_nil, List.nil_append, List.cons_append, List.append_nil, Nat.zero_add, Nat.reduceAdd, List.map_cons, List.map_nil, List.set_cons_zero, List.set_cons_succ, enum]
  refine AW.seq ?_
  refine AW.seq ?_
  refine AW.region ?_
  (first | (refine AL.rd rfl rfl (rd_loads_ref Try.underlying24 rfl inf24 rfl rfl rfl rfl rfl rfl) ?_) | (refine AL.rd rfl rfl (rd_loads_ad Try.underlying24 rfl inf24 rfl rfl rfl rfl) ?_))
  refine AL.call (post := ?pc4) rfl (sm_call (args := [_]) ?hc4 ⟨Try.func45, rfl, rfl, rfl, rfl⟩ rfl rfl rfl rfl) ?_
  case hc4 => exact Fn.eqi (am_Check ⟨st, sts⟩) he
  rintro _ rfl -
  try dsimp only
  refine AL.rp rfl rfl (rp_assign rfl rfl) ?_
  refine AL.nil ?_
  try simp only [thenS, S.put, S.newObj, setL, V.cs, List.length_cons, List.length_nil, List.take_succ_cons, List.take_zero, List.drop_succ_cons, List.drop_zero, List.drop_nil, List.nil_append, List.cons_append, List.append_nil, Nat.zero_add, Nat.reduceAdd, List.map_cons, List.map_nil, List.set_cons_zero, List.set_cons_succ]
  refine AW.seq ?_
  refine AW.region ?_
  refine AL.rp rfl rfl (rp_move rfl rfl) ?_
  (first | (refine AL.rp rfl rfl (rp_neqT rfl rfl rfl (by first | assumption | omega | (dsimp only; omega))) ?_) | (refine AL.rp rfl rfl (rp_neqF rfl rfl rfl (by first | assumption | omega | (dsimp only; omega))) ?_) | (refine AL.rp rfl rfl (rp_neq rfl rfl rfl) ?_))
  refine AL.nil ?_
  try simp only [thenS, S.put]
  refine AW.condT rfl ?_
  refine AW.seq ?_
  refine AW.region ?_
  refine AL.rp rfl rfl (rp_move rfl rfl) ?_
  refine AL.rp rfl rfl (rp_assign rfl rfl) ?_
  refine AL.rp rfl rfl (rp_assign rfl rfl) ?_
  refine AL.nil ?_
  try simp only [thenS, S.put]
  refine AW.ret ?_
  exact ⟨[_, _], ⟨rfl, rfl, trivial⟩, .inl ⟨h0, rfl⟩, by simp [tupOf, V.pure, V.has, V.hasL]⟩
end Go.Proofs.Ytnpbdcjfealoeaa
