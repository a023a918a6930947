/- The document's Ahead answers the set of states that can be reached. -/
import Derived.Test.YtjbldphpkkmdpaaAmFault
import Derived.Test.YtjbldphpkkmdpaaAmU
import Derived.Test.YtjbldphpkkmdpaaReach
namespace Go.Proofs.Ytjbldphpkkmdpaa
open Go.RowKit
set_option linter.unusedSimpArgs false
set_option linter.unusedVariables false
set_option maxRecDepth 100000

def clA (m : Mach) (L : List Bool) (q : Nat) : Prop := (aInit m q → L[q]? = some true) ∧ (L[q]? = some true → ∀ p, aEdge m q p → L[p]? = some true)
theorem a_in {m : Mach} (h : machE m = 0) : ∀ x, Rch (aInit m) (aEdge m) x → x < m.states.length := by
 intro x hx
 obtain ⟨_, _, _, hz⟩ := machE_zero h
 cases hx with
 | init q h => exact h.2
 | step q p h e =>
  obtain ⟨s, a, h1, h2, h3⟩ := e
  have h4 := (hz s (List.mem_of_getElem? h1)).2 a h2
  simp only [arOk, decide_eq_true_eq] at h4
  omega

theorem am_AheadOf0 (m : Mach) : Fn Try.prog 90 [mV m] (fun v => (machE m ≠ 0 ∧ v = .tup [.nil, .i (machE m)]) ∨ (machE m = 0 ∧ v = .tup [.d (boolsD (aheadL m)), .i (machE m)])) := by
 refine Fn.mach m 0 rfl fun hb hal => ?_
 by_cases h0 : machE m = 0
 ·have hA : aheadL m = rchL (aInit m) (aEdge m) m.states.length := by unfold aheadL; rw [if_pos h0]
  have hin := a_in h0
  obtain ⟨h60, h400, hst, hz⟩ := machE_zero h0
  obtain ⟨st, sts⟩ := m
  simp only at h60 h400 hst hz hb hal hA hin
  obtain ⟨n, hn⟩ : ∃ n, sts.length = n := ⟨_, rfl⟩
  rw [hn] at h60 hst hz hb hA hin
  refine Fn.intro (n := 67) ⟨Try.func90, rfl, rfl, rfl, rfl⟩ (by simp [V.pure, V.has, V.hasL]) (by simp) fun w0 out => ?_
  refine AW.seq ?_
  refine AW.region ?_
  refine AL.sm rfl (sm_box 1 rfl rfl rfl rfl rfl) ?_
  refine AL.rp rfl rfl (rp_assign rfl rfl) ?_
  refine AL.rp rfl rfl (rp_assign rfl rfl) ?_
  refine AL.nil ?_
  try simp only [thenS, S.put, S.newObj, setL, V.cs, List.length_cons, List.length_nil, List.take_succ_cons, List.take_zero, List.drop_succ_cons, List.drop_zero, List.drop_nil, List.nil_append, List.cons_append, List.append_nil, Nat.zero_add, Nat.reduceAdd, List.map_cons, List.map_nil, List.set_cons_zero, List.set_cons_succ, enum]
  refine AW.seq ?_
  refine AW.region ?_
  refine AL.rd rfl rfl (rd_loads_ref Try.underlying24 rfl inf24 rfl rfl rfl rfl rfl rfl) ?_
  refine AL.call (post := ?pc0) rfl (sm_call (args := [_]) ?hc0 ⟨Try.func37, rfl, rfl, rfl, rfl⟩ rfl rfl rfl rfl) ?_
  case hc0 => exact Fn.eqi (am_Fault ⟨st, sts⟩) h0
  rintro _ rfl -
  try dsimp only
  refine AL.rp rfl rfl (rp_assign rfl rfl) ?_
  refine AL.nil ?_
  try simp only [thenS, S.put, S.newObj, setL, V.cs, List.length_cons, List.length_nil, List.take_succ_cons, List.take_zero, List.drop_succ_cons, List.drop_zero, List.drop_nil, List.nil_append, List.cons_append, List.append_nil, Nat.zero_add, Nat.reduceAdd, List.map_cons, List.map_nil, List.set_cons_zero, List.set_cons_succ]
  refine AW.seq ?_
  refine AW.seq ?_
  refine AW.region ?_
  refine AL.rp rfl rfl (rp_move rfl rfl) ?_
  (refine AL.rp rfl rfl (rp_neqF rfl rfl rfl (by first | assumption | omega | (dsimp only; omega))) ?_)
  refine AL.nil ?_
  try simp only [thenS, S.put]
  refine AW.condF rfl ?_
  refine AW.skip ?_
  try simp only [thenS]
  refine AW.seq ?_
  refine AW.region ?_
  refine AL.rp rfl rfl (rp_field_ref Try.underlying24 rfl rfl rfl inf22 (by decide) rfl) ?_
  refine AL.rd rfl rfl (rd_load_ref Try.underlying22 rfl rfl rfl rfl rfl rfl) ?_
  refine AL.rp rfl rfl (rp_len_map Try.underlying22 rfl rfl (by assumption)) ?_
  refine AL.rp rfl rfl (rp_assign rfl rfl) ?_
  refine AL.nil ?_
  try simp only [thenS, S.put]
  refine AW.seq ?_
  refine AW.region ?_
  refine AL.rp rfl rfl (rp_move rfl rfl) ?_
  refine AL.sm rfl (sm_make_map 19 V.b (false) Try.underlying107 inf4 rfl rfl rfl rfl rfl (by omega) (by decide) rfl rfl) ?_
  refine AL.rp rfl rfl (rp_assign rfl rfl) ?_
  refine AL.nil ?_
  try simp only [thenS, S.put, S.newObj, setL, V.cs, List.length_cons, List.length_nil, List.take_succ_cons, List.take_zero, List.drop_succ_cons, List.drop_zero, List.drop_nil, List.nil_append, List.cons_append, List.append_nil, Nat.zero_add, Nat.reduceAdd, List.map_cons, List.map_nil, List.set_cons_zero, List.set_cons_succ]
  refine AW.seq ?_
  refine AW.seq ?_
  refine AW.region ?_
  refine AL.rp rfl rfl (rp_assign rfl rfl) ?_
  refine AL.nil ?_
  try simp only [thenS, S.put]
  refine AW.block ?_
  refine AW.loop (fun s' => ∃ (k : Nat) (L : List Bool), k ≤ n + 1 ∧ Rnd (aInit ⟨st, sts⟩) (aEdge ⟨st, sts⟩) n k (fun _ => True) L ∧ s' = ⟨67, [(1, .ref 1 0), (5, .i n), (6, .own 19 1 n false), (7, .i k)], [(1, ⟨24, [.i st, .d (stsD sts)], false, 0⟩), (19, ⟨4, L.map V.b, false, 1⟩)], []⟩) (fun s' => n + 1 - s'.nat 7) ⟨_, ?_, 0, List.replicate n false, by omega, Rnd.start fun _ => trivial, rfl⟩ ?_
  ·exact (Less.of rfl (by repeat (first | exact trivial | refine ⟨⟨_, rfl, Wk.refl _⟩, ?_⟩ | refine ⟨⟨_, rfl, Wk.nil _ _⟩, ?_⟩ | refine ⟨⟨_, rfl, Wk.junk _⟩, ?_⟩)) (by repeat (first | exact trivial | refine ⟨rfl, ?_⟩)) rfl)
  rintro s' ⟨k, L, hk, hR, rfl⟩
  by_cases hlt : k ≤ n
  ·skip
   refine AW.seq ?_
   refine AW.seq ?_
   refine AW.region ?_
   refine AL.rp rfl rfl (rp_move rfl rfl) ?_
   refine AL.rp rfl rfl (rp_move rfl rfl) ?_
   (refine AL.rp rfl rfl (rp_leqT rfl rfl rfl (by first | assumption | omega | (dsimp only; omega))) ?_)
   refine AL.nil ?_
   try simp only [thenS, S.put]
   refine AW.condT rfl ?_
   refine AW.skip ?_
   try simp only [thenS]
   refine AW.seq ?_
   refine AW.block ?_
   refine AW.seq ?_
   refine AW.region ?_
   refine AL.rp rfl rfl (rp_assign rfl rfl) ?_
   refine AL.nil ?_
   try simp only [thenS, S.put]
   refine AW.block ?_
   refine AW.loop (fun s' => ∃ (q : Nat) (L : List Bool), q ≤ n ∧ Rnd (aInit ⟨st, sts⟩) (aEdge ⟨st, sts⟩) n k (fun L => ∀ q', q' < q → clA ⟨st, sts⟩ L q') L ∧ s' = ⟨67, [(1, .ref 1 0), (5, .i n), (6, .own 19 1 n false), (7, .i k), (8, .i q)], [(1, ⟨24, [.i st, .d (stsD sts)], false, 0⟩), (19, ⟨4, L.map V.b, false, 1⟩)], []⟩) (fun s' => n - s'.nat 8) ⟨_, ?_, 0, L, by omega, hR.skip fun _ q' h => absurd h (by omega), rfl⟩ ?_
   ·exact (Less.of rfl (by repeat (first | exact trivial | refine ⟨⟨_, rfl, Wk.refl _⟩, ?_⟩ | refine ⟨⟨_, rfl, Wk.nil _ _⟩, ?_⟩ | refine ⟨⟨_, rfl, Wk.junk _⟩, ?_⟩)) (by repeat (first | exact trivial | refine ⟨rfl, ?_⟩)) rfl)
   rintro s' ⟨q, L, hq, hR, rfl⟩
   by_cases hlq : q < n
   ·obtain ⟨x, hx⟩ := get_lt hn hlq
    obtain ⟨la, hla⟩ : ∃ n, x.arcs.length = n := ⟨_, rfl⟩
    have hla' := hal x (List.mem_of_getElem? hx)
    rw [hla] at hla'
    refine AW.seq ?_
    refine AW.seq ?_
    refine AW.region ?_
    refine AL.rp rfl rfl (rp_move rfl rfl) ?_
    refine AL.rp rfl rfl (rp_move rfl rfl) ?_
    (refine AL.rp rfl rfl (rp_lssT rfl rfl rfl (by first | assumption | omega | (dsimp only; omega))) ?_)
    refine AL.nil ?_
    try simp only [thenS, S.put]
    refine AW.condT rfl ?_
    refine AW.skip ?_
    try simp only [thenS]
    refine AW.seq ?_
    refine AW.block ?_
    refine AW.seqc (fun s' => ∃ L : List Bool, Rnd (aInit ⟨st, sts⟩) (aEdge ⟨st, sts⟩) n k (fun L => (∀ q', q' < q → clA ⟨st, sts⟩ L q') ∧ (aInit ⟨st, sts⟩ q → L[q]? = some true)) L ∧ s' = ⟨67, [(1, .ref 1 0), (5, .i n), (6, .own 19 1 n false), (7, .i k), (8, .i q)], [(1, ⟨24, [.i st, .d (stsD sts)], false, 0⟩), (19, ⟨4, L.map V.b, false, 1⟩)], []⟩) ?_ ?_
    ·skip
     by_cases hqs : (q : Int) = st
     ·have hlL : q < L.length := by rw [hR.1]; exact hlq
      refine AW.seq ?_
      refine AW.region ?_
      refine AL.rp rfl rfl (rp_move rfl rfl) ?_
      refine AL.rp rfl rfl (rp_field_ref Try.underlying24 rfl rfl rfl inf3 (by decide) rfl) ?_
      refine AL.rd rfl rfl (rd_load_ref Try.underlying3 rfl rfl rfl rfl rfl rfl) ?_
      (refine AL.rp rfl rfl (rp_eqlT rfl rfl rfl (by first | assumption | omega | (dsimp only; omega))) ?_)
      refine AL.nil ?_
      try simp only [thenS, S.put]
      refine AW.condT rfl ?_
      refine AW.region ?_
      refine AL.rp rfl rfl (rp_move rfl rfl) ?_
      refine AL.rp rfl rfl (rp_move rfl rfl) ?_
      refine AL.rp rfl rfl (rp_index_own Try.underlying107 inf4 rfl rfl rfl rfl (by first | assumption | omega)) ?_
      refine AL.st rfl (st_store_map2 inf4 rfl rfl rfl rfl rfl rfl rfl rfl (by first | assumption | omega)) ?_
      refine AL.nil ?_
      try simp only [thenS, S.put, S.newObj, setL, V.cs, List.length_cons, List.length_nil, List.take_succ_cons, List.take_zero, List.drop_succ_cons, List.drop_zero, List.drop_nil, List.nil_append, List.cons_append, List.append_nil, Nat.zero_add, Nat.reduceAdd, List.map_cons, List.map_nil, List.set_cons_zero, List.set_cons_succ]
      refine ⟨_, ?_, L.set q true, hR.set hlq (.inl ⟨hqs.symm, by simp only [hn]; exact hlq⟩) (fun h1 h2 => ⟨h2, fun _ => h1⟩), rfl⟩
      exact (Less.of rfl (by repeat (first | exact trivial | refine ⟨⟨_, rfl, Wk.refl _⟩, ?_⟩ | refine ⟨⟨_, rfl, Wk.nil _ _⟩, ?_⟩ | refine ⟨⟨_, rfl, Wk.junk _⟩, ?_⟩)) (by repeat (first | exact trivial | refine ⟨rfl, ?_⟩)) rfl)
     ·skip
      refine AW.seq ?_
      refine AW.region ?_
      refine AL.rp rfl rfl (rp_move rfl rfl) ?_
      refine AL.rp rfl rfl (rp_field_ref Try.underlying24 rfl rfl rfl inf3 (by decide) rfl) ?_
      refine AL.rd rfl rfl (rd_load_ref Try.underlying3 rfl rfl rfl rfl rfl rfl) ?_
      (refine AL.rp rfl rfl (rp_eqlF rfl rfl rfl (by first | assumption | omega | (dsimp only; omega))) ?_)
      refine AL.nil ?_
      try simp only [thenS, S.put]
      refine AW.condF rfl ?_
      refine AW.skip ?_
      try simp only [thenS]
      refine ⟨_, ?_, L, hR.skip (fun h => ⟨h, fun h1 => absurd h1.1.symm hqs⟩), rfl⟩
      exact (Less.of rfl (by repeat (first | exact trivial | refine ⟨⟨_, rfl, Wk.refl _⟩, ?_⟩ | refine ⟨⟨_, rfl, Wk.nil _ _⟩, ?_⟩ | refine ⟨⟨_, rfl, Wk.junk _⟩, ?_⟩)) (by repeat (first | exact trivial | refine ⟨rfl, ?_⟩)) rfl)
    ·rintro s' ⟨L, hR, rfl⟩
     refine AW.seq ?_
     refine AW.region ?_
     refine AL.rp rfl rfl (rp_assign rfl rfl) ?_
     refine AL.nil ?_
     try simp only [thenS, S.put]
     refine AW.block ?_
     refine AW.loop (fun s' => ∃ (i : Nat) (L : List Bool), i ≤ la ∧ Rnd (aInit ⟨st, sts⟩) (aEdge ⟨st, sts⟩) n k (fun L => (∀ q', q' < q → clA ⟨st, sts⟩ L q') ∧ (aInit ⟨st, sts⟩ q → L[q]? = some true) ∧ (L[q]? = some true → ∀ (j : Nat) (a : Ar) (p : Nat), j < i → x.arcs[j]? = some a → a.t = (p : Int) → L[p]? = some true)) L ∧ s' = ⟨67, [(1, .ref 1 0), (5, .i n), (6, .own 19 1 n false), (7, .i k), (8, .i q), (9, .i i)], [(1, ⟨24, [.i st, .d (stsD sts)], false, 0⟩), (19, ⟨4, L.map V.b, false, 1⟩)], []⟩) (fun s' => la - s'.nat 9) ⟨_, ?_, 0, L, by omega, hR.skip fun h => ⟨h.1, h.2, fun _ j a p h => absurd h (by omega)⟩, rfl⟩ ?_
     ·exact (Less.of rfl (by repeat (first | exact trivial | refine ⟨⟨_, rfl, Wk.refl _⟩, ?_⟩ | refine ⟨⟨_, rfl, Wk.nil _ _⟩, ?_⟩ | refine ⟨⟨_, rfl, Wk.junk _⟩, ?_⟩)) (by repeat (first | exact trivial | refine ⟨rfl, ?_⟩)) rfl)
     rintro s' ⟨i, L, hi, hR, rfl⟩
     obtain ⟨b, hb⟩ := get_lt hR.1 hlq
     have fin : (i < la → b = false) → Rnd (aInit ⟨st, sts⟩) (aEdge ⟨st, sts⟩) n k (fun L => ∀ q', q' < q + 1 → clA ⟨st, sts⟩ L q') L := by
      intro hf
      refine ⟨hR.1, hR.2.1, hR.2.2.imp_right (Or.imp_right fun ⟨h0, h1, h2, h3⟩ => ⟨h0, fun q' hq' => ?_⟩)⟩
      by_cases e : q' = q
      ·subst e
       refine ⟨h2, fun ht p he => ?_⟩
       obtain ⟨s, a, h4, h5, h6⟩ := he
       simp only at h4
       rw [hx] at h4
       simp only [Option.some.injEq] at h4
       subst h4
       obtain ⟨j, hj⟩ := List.getElem?_of_mem h5
       have hjl : j < la := by rw [← hla]; exact (List.getElem?_eq_some_iff.1 hj).1
       refine h3 ht j a p ?_ hj h6
       by_cases hil : i < la
       ·rw [hb, hf hil] at ht; simp at ht
       ·omega
      ·exact h1 q' (by omega)
     by_cases hil : i < la
     ·cases b with
      | true =>
       obtain ⟨y, hy⟩ := get_lt hla hil
       have hyt := (hz x (List.mem_of_getElem? hx)).2 y (List.mem_of_getElem? hy)
       obtain ⟨yi, yo, yw, yt⟩ := y
       simp only [arOk, decide_eq_true_eq] at hyt
       obtain ⟨p, rfl⟩ : ∃ p : Nat, yt = p := ⟨yt.toNat, by omega⟩
       have hpn : p < n := by omega
       have hlL : p < L.length := by rw [hR.1]; exact hpn
       refine AW.seq ?_
       refine AW.seq ?_
       refine AW.region ?_
       refine AL.rp rfl rfl (rp_move rfl rfl) ?_
       refine AL.rp rfl rfl (rp_field_ref Try.underlying24 rfl rfl rfl inf22 (by decide) rfl) ?_
       refine AL.rd rfl rfl (rd_load_ref Try.underlying22 rfl rfl rfl rfl rfl rfl) ?_
       refine AL.rp rfl rfl (rp_move rfl rfl) ?_
       refine AL.rp rfl rfl (rp_index_map Try.underlying22 inf52 rfl rfl rfl rfl (by assumption)) ?_
       refine AL.rp rfl rfl (rp_field_ad Try.underlying52 rfl rfl rfl inf50 (by decide) rfl) ?_
       refine AL.rd rfl rfl (rd_load_ad Try.underlying50 rfl rfl rfl rfl) ?_
       refine AL.rp rfl rfl (rp_len_map Try.underlying50 rfl rfl (by assumption)) ?_
       (refine AL.rp rfl rfl (rp_lssT rfl rfl rfl (by first | assumption | omega | (dsimp only; omega))) ?_)
       refine AL.rp rfl rfl (rp_move rfl rfl) ?_
       refine AL.rpy rfl rfl rfl (rp_move rfl rfl) ?_
       refine AL.rpy rfl rfl rfl (rp_move rfl rfl) ?_
       refine AL.rpy rfl rfl rfl (rp_index_own Try.underlying107 inf4 rfl rfl rfl rfl (by first | assumption | omega)) ?_
       refine AL.rdy rfl rfl rfl (rd_load_map Try.underlying4 rfl rfl rfl rfl rfl rfl (by assumption)) ?_
       refine AL.rp rfl rfl (rp_pick rfl rfl rfl) ?_
       refine AL.nil ?_
       try simp only [thenS, S.put]
       refine AW.condT rfl ?_
       refine AW.skip ?_
       try simp only [thenS]
       refine AW.seq ?_
       refine AW.block ?_
       refine AW.region ?_
       refine AL.rp rfl rfl (rp_move rfl rfl) ?_
       refine AL.rp rfl rfl (rp_field_ref Try.underlying24 rfl rfl rfl inf22 (by decide) rfl) ?_
       refine AL.rd rfl rfl (rd_load_ref Try.underlying22 rfl rfl rfl rfl rfl rfl) ?_
       refine AL.rp rfl rfl (rp_move rfl rfl) ?_
       refine AL.rp rfl rfl (rp_index_map Try.underlying22 inf52 rfl rfl rfl rfl (by assumption)) ?_
       refine AL.rp rfl rfl (rp_field_ad Try.underlying52 rfl rfl rfl inf50 (by decide) rfl) ?_
       refine AL.rd rfl rfl (rd_load_ad Try.underlying50 rfl rfl rfl rfl) ?_
       refine AL.rp rfl rfl (rp_move rfl rfl) ?_
       refine AL.rp rfl rfl (rp_index_map Try.underlying50 inf56 rfl rfl rfl rfl (by assumption)) ?_
       refine AL.rp rfl rfl (rp_field_ad Try.underlying56 rfl rfl rfl inf3 (by decide) rfl) ?_
       refine AL.rd rfl rfl (rd_load_ad Try.underlying3 rfl rfl rfl rfl) ?_
       refine AL.rp rfl rfl (rp_index_own Try.underlying107 inf4 rfl rfl rfl rfl (by first | assumption | omega)) ?_
       refine AL.st rfl (st_store_map2 inf4 rfl rfl rfl rfl rfl rfl rfl rfl (by first | assumption | omega)) ?_
       refine AL.nil ?_
       try simp only [thenS, S.put, S.newObj, setL, V.cs, List.length_cons, List.length_nil, List.take_succ_cons, List.take_zero, List.drop_succ_cons, List.drop_zero, List.drop_nil, List.nil_append, List.cons_append, List.append_nil, Nat.zero_add, Nat.reduceAdd, List.map_cons, List.map_nil, List.set_cons_zero, List.set_cons_succ]
       refine AW.region ?_
       refine AL.rp rfl rfl (rp_move rfl rfl) ?_
       refine AL.rp rfl rfl (rp_add rfl rfl rfl (by first | omega | (dsimp only; omega))) ?_
       refine AL.rp rfl rfl (rp_assign rfl rfl) ?_
       refine AL.nil ?_
       try simp only [thenS, S.put]
       refine ⟨_, ?_, ⟨i + 1, L.set p true, by omega, hR.set hpn (.inr ⟨q, hb, x, _, hx, List.mem_of_getElem? hy, rfl⟩) (fun h1 ⟨h2, h3, h4⟩ => ⟨h2, h3, fun h5 j a r hj ha hr => ?_⟩), rfl⟩, ?_⟩
       ·exact (Less.of rfl (by repeat (first | exact trivial | refine ⟨⟨_, rfl, Wk.refl _⟩, ?_⟩ | refine ⟨⟨_, rfl, Wk.nil _ _⟩, ?_⟩ | refine ⟨⟨_, rfl, Wk.junk _⟩, ?_⟩)) (by repeat (first | exact trivial | refine ⟨rfl, ?_⟩)) rfl)
       ·by_cases e : j = i
        ·subst e
         rw [hy] at ha
         simp only [Option.some.injEq] at ha
         subst ha
         simp only at hr
         obtain rfl : p = r := by omega
         exact h1
        ·exact h4 h5 j a r (by omega) ha hr
       ·simp [S.nat, fnd]; omega
      | false =>
       have hR' := fin (fun _ => rfl)
       refine AW.seq ?_
       refine AW.seq ?_
       refine AW.region ?_
       refine AL.rp rfl rfl (rp_move rfl rfl) ?_
       refine AL.rp rfl rfl (rp_field_ref Try.underlying24 rfl rfl rfl inf22 (by decide) rfl) ?_
       refine AL.rd rfl rfl (rd_load_ref Try.underlying22 rfl rfl rfl rfl rfl rfl) ?_
       refine AL.rp rfl rfl (rp_move rfl rfl) ?_
       refine AL.rp rfl rfl (rp_index_map Try.underlying22 inf52 rfl rfl rfl rfl (by assumption)) ?_
       refine AL.rp rfl rfl (rp_field_ad Try.underlying52 rfl rfl rfl inf50 (by decide) rfl) ?_
       refine AL.rd rfl rfl (rd_load_ad Try.underlying50 rfl rfl rfl rfl) ?_
       refine AL.rp rfl rfl (rp_len_map Try.underlying50 rfl rfl (by assumption)) ?_
       (refine AL.rp rfl rfl (rp_lssT rfl rfl rfl (by first | assumption | omega | (dsimp only; omega))) ?_)
       refine AL.rp rfl rfl (rp_move rfl rfl) ?_
       refine AL.rpy rfl rfl rfl (rp_move rfl rfl) ?_
       refine AL.rpy rfl rfl rfl (rp_move rfl rfl) ?_
       refine AL.rpy rfl rfl rfl (rp_index_own Try.underlying107 inf4 rfl rfl rfl rfl (by first | assumption | omega)) ?_
       refine AL.rdy rfl rfl rfl (rd_load_map Try.underlying4 rfl rfl rfl rfl rfl rfl (by assumption)) ?_
       refine AL.rp rfl rfl (rp_pick rfl rfl rfl) ?_
       refine AL.nil ?_
       try simp only [thenS, S.put]
       refine AW.condF rfl ?_
       refine AW.exit ?_
       try simp only [thenS, inBlockS, ↓reduceIte, Nat.reduceEqDiff]
       refine AW.region ?_
       refine AL.rp rfl rfl (rp_move rfl rfl) ?_
       refine AL.rp rfl rfl (rp_add rfl rfl rfl (by first | omega | (dsimp only; omega))) ?_
       refine AL.rp rfl rfl (rp_assign rfl rfl) ?_
       refine AL.nil ?_
       try simp only [thenS, S.put]
       refine ⟨_, ?_, ⟨q + 1, L, by omega, hR', rfl⟩, ?_⟩
       ·exact (Less.of rfl (by repeat (first | exact trivial | refine ⟨⟨_, rfl, Wk.refl _⟩, ?_⟩ | refine ⟨⟨_, rfl, Wk.nil _ _⟩, ?_⟩ | refine ⟨⟨_, rfl, Wk.junk _⟩, ?_⟩)) (by repeat (first | exact trivial | refine ⟨rfl, ?_⟩)) rfl)
       ·simp [S.nat, fnd]; omega
     ·have hR' := fin (fun h => absurd h hil)
      refine AW.seq ?_
      refine AW.seq ?_
      refine AW.region ?_
      refine AL.rp rfl rfl (rp_move rfl rfl) ?_
      refine AL.rp rfl rfl (rp_field_ref Try.underlying24 rfl rfl rfl inf22 (by decide) rfl) ?_
      refine AL.rd rfl rfl (rd_load_ref Try.underlying22 rfl rfl rfl rfl rfl rfl) ?_
      refine AL.rp rfl rfl (rp_move rfl rfl) ?_
      refine AL.rp rfl rfl (rp_index_map Try.underlying22 inf52 rfl rfl rfl rfl (by assumption)) ?_
      refine AL.rp rfl rfl (rp_field_ad Try.underlying52 rfl rfl rfl inf50 (by decide) rfl) ?_
      refine AL.rd rfl rfl (rd_load_ad Try.underlying50 rfl rfl rfl rfl) ?_
      refine AL.rp rfl rfl (rp_len_map Try.underlying50 rfl rfl (by assumption)) ?_
      (refine AL.rp rfl rfl (rp_lssF rfl rfl rfl (by first | assumption | omega | (dsimp only; omega))) ?_)
      refine AL.rp rfl rfl (rp_move rfl rfl) ?_
      refine AL.no rfl rfl rfl rfl ?_
      refine AL.no rfl rfl rfl rfl ?_
      refine AL.no rfl rfl rfl rfl ?_
      refine AL.no rfl rfl rfl rfl ?_
      refine AL.rp rfl rfl (rp_pick rfl rfl rfl) ?_
      refine AL.nil ?_
      try simp only [thenS, S.put]
      refine AW.condF rfl ?_
      refine AW.exit ?_
      try simp only [thenS, inBlockS, ↓reduceIte, Nat.reduceEqDiff]
      refine AW.region ?_
      refine AL.rp rfl rfl (rp_move rfl rfl) ?_
      refine AL.rp rfl rfl (rp_add rfl rfl rfl (by first | omega | (dsimp only; omega))) ?_
      refine AL.rp rfl rfl (rp_assign rfl rfl) ?_
      refine AL.nil ?_
      try simp only [thenS, S.put]
      refine ⟨_, ?_, ⟨q + 1, L, by omega, hR', rfl⟩, ?_⟩
      ·exact (Less.of rfl (by repeat (first | exact trivial | refine ⟨⟨_, rfl, Wk.refl _⟩, ?_⟩ | refine ⟨⟨_, rfl, Wk.nil _ _⟩, ?_⟩ | refine ⟨⟨_, rfl, Wk.junk _⟩, ?_⟩)) (by repeat (first | exact trivial | refine ⟨rfl, ?_⟩)) rfl)
      ·simp [S.nat, fnd]; omega
   ·skip
    refine AW.seq ?_
    refine AW.seq ?_
    refine AW.region ?_
    refine AL.rp rfl rfl (rp_move rfl rfl) ?_
    refine AL.rp rfl rfl (rp_move rfl rfl) ?_
    (refine AL.rp rfl rfl (rp_lssF rfl rfl rfl (by first | assumption | omega | (dsimp only; omega))) ?_)
    refine AL.nil ?_
    try simp only [thenS, S.put]
    refine AW.condF rfl ?_
    refine AW.exit ?_
    try simp only [thenS, inBlockS, ↓reduceIte, Nat.reduceEqDiff]
    refine AW.region ?_
    refine AL.rp rfl rfl (rp_move rfl rfl) ?_
    refine AL.rp rfl rfl (rp_add rfl rfl rfl (by first | omega | (dsimp only; omega))) ?_
    refine AL.rp rfl rfl (rp_assign rfl rfl) ?_
    refine AL.nil ?_
    try simp only [thenS, S.put]
    refine ⟨_, ?_, ⟨k + 1, L, by omega, hR.next (fun h => ?_) (fun _ => trivial), rfl⟩, ?_⟩
    ·exact (Less.of rfl (by repeat (first | exact trivial | refine ⟨⟨_, rfl, Wk.refl _⟩, ?_⟩ | refine ⟨⟨_, rfl, Wk.nil _ _⟩, ?_⟩ | refine ⟨⟨_, rfl, Wk.junk _⟩, ?_⟩)) (by repeat (first | exact trivial | refine ⟨rfl, ?_⟩)) rfl)
    ·intro y hy hj
     have hyn : y < n := by rw [hR.1] at hy; exact hy
     rcases hj with hj | ⟨z, h1, h2⟩
     ·exact (h y (by omega)).1 hj
     ·have hzn : z < n := by have := (List.getElem?_eq_some_iff.1 h1).1; rw [hR.1] at this; exact this
      exact (h z (by omega)).2 h1 y h2
    ·simp [S.nat, fnd]; omega
  ·skip
   refine AW.seq ?_
   refine AW.seq ?_
   refine AW.region ?_
   refine AL.rp rfl rfl (rp_move rfl rfl) ?_
   refine AL.rp rfl rfl (rp_move rfl rfl) ?_
   (refine AL.rp rfl rfl (rp_leqF rfl rfl rfl (by first | assumption | omega | (dsimp only; omega))) ?_)
   refine AL.nil ?_
   try simp only [thenS, S.put]
   refine AW.condF rfl ?_
   refine AW.exit ?_
   try simp only [thenS, inBlockS, ↓reduceIte, Nat.reduceEqDiff]
   refine AW.seq ?_
   have hL := hR.done (by omega) hin
   refine AW.freeze 6 1 (L.map fun b => [.p (.bool b)]) rfl rfl rfl (by rw [List.length_map, hR.1]) (by omega) (rows1 rfl) ?_
   refine AW.region ?_
   refine AL.rp rfl rfl (rp_move rfl rfl) ?_
   refine AL.rp rfl rfl (rp_assign rfl rfl) ?_
   refine AL.rp rfl rfl (rp_assign rfl rfl) ?_
   refine AL.nil ?_
   try simp only [thenS, S.put]
   refine AW.ret ?_
   exact ⟨[_, _], ⟨rfl, rfl, trivial⟩, .inr ⟨h0, by rw [h0, hA, ← hL]; rfl⟩, by simp [tupOf, V.pure, V.has, V.hasL]⟩
 ·obtain ⟨st, sts⟩ := m
  obtain ⟨e, he⟩ : ∃ e, machE ⟨st, sts⟩ = e := ⟨_, rfl⟩
  rw [he] at h0 ⊢
  refine Fn.intro (n := 67) ⟨Try.func90, rfl, rfl, rfl, rfl⟩ (by simp [V.pure, V.has, V.hasL]) (by simp) fun w0 out => ?_
  refine AW.seq ?_
  refine AW.region ?_
  refine AL.sm rfl (sm_box 1 rfl rfl rfl rfl rfl) ?_
  refine AL.rp rfl rfl (rp_assign rfl rfl) ?_
  refine AL.rp rfl rfl (rp_assign rfl rfl) ?_
  refine AL.nil ?_
  try simp only [thenS, S.put, S.newObj, setL, V.cs, List.length_cons, List.length_nil, List.take_succ_cons, List.take_zero, List.drop_succ_cons, List.drop_zero, List.drop_nil, List.nil_append, List.cons_append, List.append_nil, Nat.zero_add, Nat.reduceAdd, List.map_cons, List.map_nil, List.set_cons_zero, List.set_cons_succ, enum]
  refine AW.seq ?_
  refine AW.region ?_
  refine AL.rd rfl rfl (rd_loads_ref Try.underlying24 rfl inf24 rfl rfl rfl rfl rfl rfl) ?_
  refine AL.call (post := ?pc1) rfl (sm_call (args := [_]) ?hc1 ⟨Try.func37, rfl, rfl, rfl, rfl⟩ rfl rfl rfl rfl) ?_
  case hc1 => exact Fn.eqi (am_Fault ⟨st, sts⟩) he
  rintro _ rfl -
  try dsimp only
  refine AL.rp rfl rfl (rp_assign rfl rfl) ?_
  refine AL.nil ?_
  try simp only [thenS, S.put, S.newObj, setL, V.cs, List.length_cons, List.length_nil, List.take_succ_cons, List.take_zero, List.drop_succ_cons, List.drop_zero, List.drop_nil, List.nil_append, List.cons_append, List.append_nil, Nat.zero_add, Nat.reduceAdd, List.map_cons, List.map_nil, List.set_cons_zero, List.set_cons_succ]
  refine AW.seq ?_
  refine AW.seq ?_
  refine AW.region ?_
  refine AL.rp rfl rfl (rp_move rfl rfl) ?_
  (refine AL.rp rfl rfl (rp_neqT rfl rfl rfl (by first | assumption | omega | (dsimp only; omega))) ?_)
  refine AL.nil ?_
  try simp only [thenS, S.put]
  refine AW.condT rfl ?_
  refine AW.seq ?_
  refine AW.region ?_
  refine AL.rp rfl rfl (rp_move rfl rfl) ?_
  refine AL.rp rfl rfl (rp_assign rfl rfl) ?_
  refine AL.rp rfl rfl (rp_assign rfl rfl) ?_
  refine AL.nil ?_
  try simp only [thenS, S.put]
  refine AW.ret ?_
  exact ⟨[_, _], ⟨rfl, rfl, trivial⟩, .inl ⟨h0, rfl⟩, by simp [tupOf, V.pure, V.has, V.hasL]⟩
theorem aheadL_wk (m : Mach) (v : V) (h : (machE m ≠ 0 ∧ v = .tup [.nil, .i (machE m)]) ∨ (machE m = 0 ∧ v = .tup [.d (boolsD (aheadL m)), .i (machE m)])) (_ : v.pure) : ∃ v', v' = .tup [.d (boolsD (aheadL m)), .i (machE m)] ∧ v'.pure ∧ WkR v' v := by
 refine ⟨_, rfl, by simp [V.pure, V.has, V.hasL], ?_⟩
 rcases h with ⟨h0, rfl⟩ | ⟨h0, rfl⟩
 ·have : aheadL m = [] := by unfold aheadL; rw [if_neg h0]
  rw [this]
  exact WkR.nil1 1 1 _
 ·exact .one (.refl _)
theorem am_AheadOf (m : Mach) : Fn Try.prog 90 [mV m] (fun v => v = .tup [.d (boolsD (aheadL m)), .i (machE m)]) := (am_AheadOf0 m).wk (aheadL_wk m)
end Go.Proofs.Ytjbldphpkkmdpaa
