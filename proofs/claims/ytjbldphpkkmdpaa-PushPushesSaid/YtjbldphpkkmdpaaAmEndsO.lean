/- distance.Ends, with what it has made still to be changed. -/
import Derived.Test.YtjbldphpkkmdpaaAmEnds
import Derived.Test.YtjbldphpkkmdpaaAmFarO
import Derived.Test.YtjbldphpkkmdpaaAmX
namespace Go.Proofs.Ytjbldphpkkmdpaa
open Go.RowKit
set_option linter.unusedSimpArgs false
set_option linter.unusedVariables false
set_option maxRecDepth 100000
set_option maxHeartbeats 1000000 in
theorem am_EndsO (m : Mach) (h0 : machE m = 0) (he : disE (enD m) m = 0) : FnO Try.prog 56 [mV m] (fun v H => v = .tup [.own 21 1 m.states.length false, .i 0] ∧ H = [(21, ⟨3, (disL (enD m) m).map V.n, false, 1⟩)]) := by
  obtain ⟨h60, h400, hst, hz⟩ := machE_zero h0
  have hall : (enD m).all okD = true := by
   unfold disE at he
   rw [if_neg (by simp [h0])] at he
   by_cases hh : (enD m).all okD = true
   ·exact hh
   ·rw [if_neg hh] at he; cases he
  have hLe : disL (enD m) m = (enD m).map tell := by unfold disL; rw [if_pos he]
  rw [hLe]
  obtain ⟨st, sts⟩ := m
  simp only at h60 h400 hst hz
  have hal4 : ∀ x ∈ sts, x.arcs.length ≤ 400 := fun x hx => Nat.le_trans (arcN_mem sts x hx) h400
  have hFr : enF ⟨st, sts⟩ = bl (fun q => stF sts q) sts.length := rfl
  have hEr : enE ⟨st, sts⟩ = bl (fun p => eInto sts p sts.length) sts.length := rfl
  have hEl : ∀ l ∈ enE ⟨st, sts⟩, l.length ≤ 24000 ∧ ∀ p w, (p, w) ∈ l → p < sts.length ∧ w ≤ 1000000000 := by
   intro l hl
   obtain ⟨p0, hq⟩ := List.getElem?_of_mem hl
   obtain ⟨hqn, rfl⟩ := bl_inv hq
   refine ⟨by have := eInto_len hal4 p0 sts.length; (try simp only); omega, fun q w hpw => ?_⟩
   obtain ⟨q', a, h1, h2, _, h4⟩ := (eInto_mem _).1 hpw
   have h1 : q' < sts.length := h1
   simp only [Prod.mk.injEq] at h4
   have hx : sts[q']? = some sts[q'] := List.getElem?_eq_getElem h1
   rw [stA_of hx] at h2
   have h3 := (hz _ (List.getElem_mem h1)).2 a h2
   simp only [arOk, decide_eq_true_eq] at h3
   omega
  have hFx : ∀ x ∈ enF ⟨st, sts⟩, x ≤ 1000000001 := by
   intro x hx
   obtain ⟨q, hq⟩ := List.getElem?_of_mem hx
   obtain ⟨hqn, rfl⟩ := bl_inv hq
   have hx : sts[q]? = some sts[q] := List.getElem?_eq_getElem hqn
   have h1 := (hz _ (List.getElem_mem hqn)).1
   simp [finOk] at h1
   have h2 := stF_of hx
   unfold stF at h2
   (try simp only)
   omega
  have hfar := am_farO (enF ⟨st, sts⟩) (enE ⟨st, sts⟩) sts.length (bl_len _ _) (bl_len _ _) h60 hFx hEl hall
  obtain ⟨D, hDd⟩ : ∃ D, (enD ⟨st, sts⟩).map tell = D := ⟨_, rfl⟩
  have hfar : FnO Try.prog 89 [.d (intsN (enF ⟨st, sts⟩)), .d (.sl 1 24 ((enE ⟨st, sts⟩).map encE))] (fun v H => v = .tup [.own 21 1 sts.length false, .i 0] ∧ H = [(21, ⟨3, D.map V.n, false, 1⟩)]) := by rw [← hDd]; exact hfar
  rw [hDd]
  obtain ⟨n, hn⟩ : ∃ n, sts.length = n := ⟨_, rfl⟩
  rw [hn] at h60 hst hz hFr hEr hEl hfar
  refine FnO.intro (n := 66) ⟨Try.func56, rfl, rfl, rfl, rfl⟩ (by simp [V.pure, V.has, V.hasL]) (by simp) fun w0 out => ?_
  refine AW.seq ?_
  refine AW.region ?_
  refine AL.sm rfl (sm_box 1 rfl rfl rfl rfl rfl) ?_
  refine AL.rp rfl rfl (rp_assign rfl rfl) ?_
  refine AL.rp rfl rfl (rp_assign rfl rfl) ?_
  refine AL.nil ?_
  try simp only [thenS, S.put, S.newObj, setL, V.cs, List.length_cons, List.length_nil, List.take_succ_cons, List.take_zero, List.drop_succ_cons, List.drop_zero, List.drop_nil, List.nil_append, List.cons_append, List.append_nil, Nat.zero_add, Nat.reduceAdd, List.map_cons, List.map_nil, List.set_cons_zero, List.set_cons_succ, enum]
  refine AW.seq ?_
  refine AW.seq ?_
  refine AW.region ?_
  refine AL.rd rfl rfl (rd_loads_ref Try.underlying24 rfl inf24 rfl rfl rfl rfl rfl rfl) ?_
  refine AL.call (post := ?pc0) rfl (sm_call (args := [_]) ?hc0 ⟨Try.func48, rfl, rfl, rfl, rfl⟩ rfl rfl rfl rfl) ?_
  case hc0 => exact Fn.eqi (am_Check ⟨st, sts⟩) h0
  rintro _ rfl -
  try dsimp only
  refine AL.rp rfl rfl (rp_assign rfl rfl) ?_
  refine AL.nil ?_
  try simp only [thenS, S.put, S.newObj, setL, V.cs, List.length_cons, List.length_nil, List.take_succ_cons, List.take_zero, List.drop_succ_cons, List.drop_zero, List.drop_nil, List.nil_append, List.cons_append, List.append_nil, Nat.zero_add, Nat.reduceAdd, List.map_cons, List.map_nil, List.set_cons_zero, List.set_cons_succ]
  refine AW.seq ?_
  refine AW.region ?_
  refine AL.rp rfl rfl (rp_move rfl rfl) ?_
  (refine AL.rp rfl rfl (rp_neqF rfl rfl rfl (by first | assumption | omega | (dsimp only; omega))) ?_)
  refine AL.nil ?_
  try simp only [thenS, S.put, List.nil_append, List.cons_append]
  refine AW.condF rfl ?_
  refine AW.skip ?_
  try simp only [thenS, List.nil_append, List.cons_append]
  refine AW.seq ?_
  refine AW.region ?_
  refine AL.rp rfl rfl (rp_field_ref Try.underlying24 rfl rfl rfl inf22 (by decide) rfl) ?_
  refine AL.rd rfl rfl (rd_load_ref Try.underlying22 rfl rfl rfl rfl rfl rfl) ?_
  refine AL.rp rfl rfl (rp_len_map Try.underlying22 rfl rfl (by assumption)) ?_
  refine AL.sm rfl (sm_make_map 19 V.i (0) Try.underlying40 inf3 rfl rfl rfl rfl rfl (by omega) (by decide) rfl rfl) ?_
  refine AL.rp rfl rfl (rp_assign rfl rfl) ?_
  refine AL.nil ?_
  try simp only [thenS, S.put, S.newObj, setL, V.cs, List.length_cons, List.length_nil, List.take_succ_cons, List.take_zero, List.drop_succ_cons, List.drop_zero, List.drop_nil, List.nil_append, List.cons_append, List.append_nil, Nat.zero_add, Nat.reduceAdd, List.map_cons, List.map_nil, List.set_cons_zero, List.set_cons_succ]
  refine AW.seq ?_
  refine AW.region ?_
  refine AL.rp rfl rfl (rp_field_ref Try.underlying24 rfl rfl rfl inf22 (by decide) rfl) ?_
  refine AL.rd rfl rfl (rd_load_ref Try.underlying22 rfl rfl rfl rfl rfl rfl) ?_
  refine AL.rp rfl rfl (rp_len_map Try.underlying22 rfl rfl (by assumption)) ?_
  refine AL.sm rfl (sm_make1 23 Try.underlying110 inf111 rfl rfl rfl rfl (by omega) (by decide) (by first | rfl | (simp only [S.clean, S.put, S.newObj, List.all_cons, objs_clean_low, Nat.reduceLT]; simp [S.forget, V.has, V.hasL, junkIf, setL, V.cs, hasL_i, hasL_b, hasL_s, hasL_n, hasL_rep, hasL_flat, hasL_append, cells_hasL_low, has_ownV, hasL_frep, nb1, nb2, nb3, nb4, -List.map_set]; try omega)) rfl) ?_
  refine AL.rp rfl rfl (rp_assign rfl rfl) ?_
  refine AL.nil ?_
  try simp only [thenS, S.put, S.newObj, setL, V.cs, List.length_cons, List.length_nil, List.take_succ_cons, List.take_zero, List.drop_succ_cons, List.drop_zero, List.drop_nil, List.nil_append, List.cons_append, List.append_nil, Nat.zero_add, Nat.reduceAdd, List.map_cons, List.map_nil, List.set_cons_zero, List.set_cons_succ]
  refine AW.seq ?_
  refine AW.seq ?_
  refine AW.famAdopt FE 1000 23 (List.replicate n []) rfl rfl (by rw [flatMap_rep]; simp [FE]) (by intro x hx; rw [List.eq_of_mem_replicate hx]; rfl) rfl ?_
  have hz0 : (List.replicate n (0 : Int)).map V.i = (bl (fun q => if q < 0 then stF sts q else 0) n).map V.n := by rw [show (bl (fun q => if q < 0 then stF sts q else 0) n) = List.replicate n 0 by rw [bl_rep]; exact bl_congr fun q _ => by simp]; simp
  have hb0 : (List.replicate n ([] : List (Nat × Nat))) = (bl (fun p => eInto sts p 0) n) := by rw [bl_rep]; rfl
  rw [hz0, hb0]
  refine AW.region ?_
  refine AL.rp rfl rfl (rp_field_ref Try.underlying24 rfl rfl rfl inf22 (by decide) rfl) ?_
  refine AL.rd rfl rfl (rd_load_ref Try.underlying22 rfl rfl rfl rfl rfl rfl) ?_
  refine AL.rp rfl rfl (rp_len_map Try.underlying22 rfl rfl (by assumption)) ?_
  refine AL.rp rfl rfl (rp_move rfl rfl) ?_
  refine AL.nil ?_
  try simp only [thenS, S.put, List.nil_append, List.cons_append]
  refine AW.block ?_
  refine AW.loop (fun s' => ∃ k : Nat, k ≤ n ∧ s' = ⟨66, [(1, .ref 1 0), (5, .own 19 1 n false), (6, .own 23 1 n false), (25, .d (stsD sts)), (26, .i n), (27, .i k)], [(1, ⟨24, [.i st, .d (stsD sts)], false, 0⟩), (19, ⟨3, (bl (fun q => if q < k then stF sts q else 0) n).map V.n, false, 1⟩), (23, ⟨111, FE.cells 1000 (bl (fun p => eInto sts p k) n), false, 1⟩)] ++ FE.objs 1000 (bl (fun p => eInto sts p k) n), []⟩) (fun s' => n - s'.nat 27) ⟨_, ?_, 0, by omega, rfl⟩ ?_
  ·exact (Less.of rfl (by repeat (first | exact trivial | refine ⟨⟨_, rfl, Wk.refl _⟩, ?_⟩ | refine ⟨⟨_, rfl, Wk.nil _ _⟩, ?_⟩ | refine ⟨⟨_, rfl, Wk.junk _⟩, ?_⟩)) (by repeat (first | exact trivial | refine ⟨rfl, ?_⟩ | exact LH.fam | refine LH.skip (by decide) ?_)) rfl)
  rintro s' ⟨k, hk, rfl⟩
  by_cases hlt : k < n
  ·obtain ⟨x, hx⟩ := get_lt hn hlt
   obtain ⟨la, hla⟩ : ∃ n, x.arcs.length = n := ⟨_, rfl⟩
   have hla' := hal4 x (List.mem_of_getElem? hx)
   rw [hla] at hla'
   have hxf := (hz x (List.mem_of_getElem? hx)).1
   have hza := (hz x (List.mem_of_getElem? hx)).2
   have hkf := stF_of hx
   have hstA := stA_of hx
   obtain ⟨xf, xa⟩ := x
   simp only [finOk, decide_eq_true_eq] at hxf hla hza hstA
   obtain ⟨f, rfl⟩ : ∃ f : Nat, xf = f := ⟨xf.toNat, by omega⟩
   simp only [Int.toNat_natCast] at hkf
   have hkC : k < (bl (fun q => if q < k then stF sts q else 0) n).length := by rw [bl_len]; exact hlt
   have hCn : (bl (fun q => if q < k then stF sts q else 0) n).set k f = (bl (fun q => if q < (k + 1) then stF sts q else 0) n) := bl_set hlt (by rw [if_pos (by omega), hkf]) fun q _ hq => by
    by_cases e : q < k
    ·rw [if_pos e, if_pos (by omega)]
    ·rw [if_neg e, if_neg (by omega)]
   refine AW.seq ?_
   refine AW.region ?_
   (refine AL.rp rfl rfl (rp_lssT rfl rfl rfl (by first | assumption | omega | (dsimp only; omega))) ?_)
   refine AL.nil ?_
   try simp only [thenS, S.put, List.nil_append, List.cons_append]
   refine AW.seq ?_
   refine AW.condT rfl ?_
   refine AW.skip ?_
   try simp only [thenS, List.nil_append, List.cons_append]
   refine AW.seq ?_
   refine AW.block ?_
   refine AW.seq ?_
   refine AW.region ?_
   refine AL.rp rfl rfl (rp_move rfl rfl) ?_
   refine AL.rp rfl rfl (rp_index_map Try.underlying22 inf52 rfl rfl rfl rfl (by assumption)) ?_
   refine AL.rd rfl rfl (rd_loads_ad Try.underlying52 rfl inf52 rfl rfl rfl rfl) ?_
   refine AL.sm rfl (sm_alloc (l := [.d (.p (.int .i64 0)), .d (.p (.slice none 0 0))]) 8 inf52 rfl (by first | rfl | (simp only [S.clean, S.put, S.newObj, List.all_cons, objs_clean_low, Nat.reduceLT]; simp [S.forget, V.has, V.hasL, junkIf, setL, V.cs, hasL_i, hasL_b, hasL_s, hasL_n, hasL_rep, hasL_flat, hasL_append, cells_hasL_low, has_ownV, hasL_frep, nb1, nb2, nb3, nb4, -List.map_set]; try omega)) rfl rfl) ?_
   refine AL.rp rfl rfl (rp_assign rfl rfl) ?_
   refine AL.st rfl (st_store_any inf52 rfl rfl rfl rfl rfl rfl rfl rfl (by first | decide | (simp; done) | (simp; omega)) rfl) ?_
   refine AL.nil ?_
   try simp only [thenS, S.put, S.newObj, setL, V.cs, List.length_cons, List.length_nil, List.take_succ_cons, List.take_zero, List.drop_succ_cons, List.drop_zero, List.drop_nil, List.nil_append, List.cons_append, List.append_nil, Nat.zero_add, Nat.reduceAdd, List.map_cons, List.map_nil, List.set_cons_zero, List.set_cons_succ]
   refine AW.seq ?_
   refine AW.region ?_
   refine AL.rp rfl rfl (rp_move rfl rfl) ?_
   refine AL.rp rfl rfl (rp_move rfl rfl) ?_
   refine AL.rp rfl rfl (rp_field_ref Try.underlying52 rfl rfl rfl inf3 (by decide) rfl) ?_
   refine AL.rd rfl rfl (rd_load_ref Try.underlying3 rfl rfl rfl rfl rfl rfl) ?_
   refine AL.rp rfl rfl (rp_index_own Try.underlying40 inf3 rfl rfl rfl rfl (by first | assumption | omega)) ?_
   refine AL.st rfl (st_store_map2 (v := f) inf3 rfl rfl rfl rfl rfl rfl rfl rfl (by first | assumption | omega)) ?_
   refine AL.nil ?_
   try simp only [thenS, S.put, S.newObj, setL, V.cs, List.length_cons, List.length_nil, List.take_succ_cons, List.take_zero, List.drop_succ_cons, List.drop_zero, List.drop_nil, List.nil_append, List.cons_append, List.append_nil, Nat.zero_add, Nat.reduceAdd, List.map_cons, List.map_nil, List.set_cons_zero, List.set_cons_succ]
   refine AW.seq ?_
   refine AW.region ?_
   refine AL.rp rfl rfl (rp_field_ref Try.underlying52 rfl rfl rfl inf50 (by decide) rfl) ?_
   refine AL.rd rfl rfl (rd_load_ref Try.underlying50 rfl rfl rfl rfl rfl rfl) ?_
   refine AL.rp rfl rfl (rp_len_map Try.underlying50 rfl rfl (by assumption)) ?_
   refine AL.rp rfl rfl (rp_move rfl rfl) ?_
   refine AL.nil ?_
   try simp only [thenS, S.put, List.nil_append, List.cons_append]
   refine AW.block ?_
   refine AW.loop (fun s' => ∃ i : Nat, i ≤ la ∧ s' = ⟨66, [(1, .ref 1 0), (5, .own 19 1 n false), (6, .own 23 1 n false), (7, .i k), (25, .d (stsD sts)), (26, .i n), (27, .i k), (38, .d (arsD xa)), (39, .i la), (40, .i i)], [(1, ⟨24, [.i st, .d (stsD sts)], false, 0⟩), (19, ⟨3, (bl (fun q => if q < (k + 1) then stF sts q else 0) n).map V.n, false, 1⟩), (23, ⟨111, FE.cells 1000 (bl (fun p => eInto sts p k ++ eTo p k (xa.take i)) n), false, 1⟩)] ++ FE.objs 1000 (bl (fun p => eInto sts p k ++ eTo p k (xa.take i)) n), []⟩) (fun s' => la - s'.nat 40) ⟨_, ?_, 0, by omega, rfl⟩ ?_
   ·have e : (bl (fun p => eInto sts p k ++ eTo p k (xa.take 0)) n) = (bl (fun p => eInto sts p k) n) := bl_congr fun q _ => by simp [eTo]
    rw [e, ← hCn]
    exact (Less.of rfl (by repeat (first | exact trivial | refine ⟨⟨_, rfl, Wk.refl _⟩, ?_⟩ | refine ⟨⟨_, rfl, Wk.nil _ _⟩, ?_⟩ | refine ⟨⟨_, rfl, Wk.junk _⟩, ?_⟩)) (by repeat (first | exact trivial | refine ⟨rfl, ?_⟩ | exact LH.fam | refine LH.skip (by decide) ?_)) rfl)
   rintro s' ⟨i, hi, rfl⟩
   by_cases hil : i < la
   ·obtain ⟨y, hy⟩ := get_lt hla hil
    have hyt := hza y (List.mem_of_getElem? hy)
    have hsn := fun p => eTo_snoc p k hy
    obtain ⟨yi, yo, yw, yt⟩ := y
    simp only [arOk, decide_eq_true_eq] at hyt
    obtain ⟨p, rfl⟩ : ∃ p : Nat, yt = p := ⟨yt.toNat, by omega⟩
    obtain ⟨w, rfl⟩ : ∃ w : Nat, yw = w := ⟨yw.toNat, by omega⟩
    have hpn : p < n := by omega
    obtain ⟨Pf, hPf⟩ : ∃ P, eInto sts p k ++ eTo p k (xa.take i) = P := ⟨_, rfl⟩
    have hPl : Pf.length ≤ 24400 := by
     have h1 := eInto_len hal4 p k
     have h2 := eTo_len p k (xa.take i)
     rw [List.length_take] at h2
     rw [← hPf, List.length_append]
     omega
    have hp0 : (bl (fun p => eInto sts p k ++ eTo p k (xa.take i)) n)[p]? = some Pf := by rw [bl_get hpn, ← hPf]
    have hkl := (List.getElem?_eq_some_iff.1 hp0).1
    have hset : ((bl (fun p => eInto sts p k ++ eTo p k (xa.take i)) n).set p (Pf ++ [(k, w)]))[p]? = some (Pf ++ [(k, w)]) := by rw [List.getElem?_set_self hkl]
    have hlen0 : (FE.it Pf).length ≤ 1000000 := by simp [FE]; omega
    have hnext : (bl (fun p => eInto sts p k ++ eTo p k (xa.take i)) n).set p (Pf ++ [(k, w)]) = (bl (fun p => eInto sts p k ++ eTo p k (xa.take (i + 1))) n) := bl_set hpn (by rw [hsn p, if_pos rfl, ← List.append_assoc, hPf]; simp) fun q _ hq => by
     rw [hsn q, if_neg (by simp only; omega), List.append_nil]
    refine AW.seq ?_
    refine AW.region ?_
    (refine AL.rp rfl rfl (rp_lssT rfl rfl rfl (by first | assumption | omega | (dsimp only; omega))) ?_)
    refine AL.nil ?_
    try simp only [thenS, S.put, List.nil_append, List.cons_append]
    refine AW.seq ?_
    refine AW.condT rfl ?_
    refine AW.skip ?_
    try simp only [thenS, List.nil_append, List.cons_append]
    refine AW.seq ?_
    refine AW.block ?_
    refine AW.seq ?_
    refine AW.region ?_
    refine AL.rp rfl rfl (rp_index_map Try.underlying50 inf56 rfl rfl rfl rfl (by assumption)) ?_
    refine AL.rd rfl rfl (rd_loads_ad Try.underlying56 rfl inf56 rfl rfl rfl rfl) ?_
    refine AL.sm rfl (sm_alloc (l := [.d (.p (.int .i64 0)), .d (.p (.int .i64 0)), .d (.p (.int .i64 0)), .d (.p (.int .i64 0))]) 10 inf56 rfl (by first | rfl | (simp only [S.clean, S.put, S.newObj, List.all_cons, objs_clean_low, Nat.reduceLT]; simp [S.forget, V.has, V.hasL, junkIf, setL, V.cs, hasL_i, hasL_b, hasL_s, hasL_n, hasL_rep, hasL_flat, hasL_append, cells_hasL_low, has_ownV, hasL_frep, nb1, nb2, nb3, nb4, -List.map_set]; try omega)) rfl rfl) ?_
    refine AL.st rfl (st_store_any inf56 rfl rfl rfl rfl rfl rfl rfl rfl (by first | decide | (simp; done) | (simp; omega)) rfl) ?_
    refine AL.nil ?_
    try simp only [thenS, S.put, S.newObj, setL, V.cs, List.length_cons, List.length_nil, List.take_succ_cons, List.take_zero, List.drop_succ_cons, List.drop_zero, List.drop_nil, List.nil_append, List.cons_append, List.append_nil, Nat.zero_add, Nat.reduceAdd, List.map_cons, List.map_nil, List.set_cons_zero, List.set_cons_succ]
    refine AW.drawX (1000 + p) [(0, true), (1, true), (2, true), (3, true), (4, true), (5, true), (6, true), (7, true), (8, true), (9, true), (10, true), (11, true), (12, false), (13, false), (14, false), (15, false)] (fun i => !([14, 15] : List Nat).contains i) 16 (by kernel_rfl) (by kernel_rfl) rfl (by kernel_rfl) ?_
    refine AE1.rp rfl rfl rfl (fun _ _ h => h) (rp_move rfl rfl) ?_
    refine AE1.rp rfl rfl rfl (fun _ _ h => h) (rp_field_ref Try.underlying56 rfl rfl rfl inf3 (by decide) rfl) ?_
    refine AE1.rx rfl rfl rfl (fun _ _ h => h) (rx_load_ref Try.underlying3 rfl rfl rfl rfl rfl rfl (by first | decide | omega)) ?_
    refine AE1.rp rfl rfl rfl (fun _ _ h => h) (rp_move rfl rfl) ?_
    refine AE1.rp rfl rfl rfl (fun _ _ h => h) (rp_field_ref Try.underlying56 rfl rfl rfl inf3 (by decide) rfl) ?_
    refine AE1.rx rfl rfl rfl (fun _ _ h => h) (rx_load_ref Try.underlying3 rfl rfl rfl rfl rfl rfl (by first | decide | omega)) ?_
    refine AE1.rp rfl rfl rfl (fun _ _ h => h) (rp_index_own Try.underlying110 inf111 rfl rfl rfl rfl (by first | assumption | omega)) ?_
    refine AE1.rx rfl rfl rfl (fun _ _ h => h) (rx_load_fam (m := 0) Try.underlying111 rfl rfl rfl rfl rfl rfl (fun _ => rfl) rfl (by assumption) (by first | decide | omega)) ?_
    refine AE1.rp rfl rfl rfl (fun _ _ h => h) (rp_move rfl rfl) ?_
    refine AE1.rp rfl rfl rfl (fun _ _ h => h) (rp_field_ref Try.underlying56 rfl rfl rfl inf3 (by decide) rfl) ?_
    refine AE1.rx rfl rfl rfl (fun _ _ h => h) (rx_load_ref Try.underlying3 rfl rfl rfl rfl rfl rfl (by first | decide | omega)) ?_
    refine AE1.rp rfl rfl rfl (fun _ _ h => h) (rp_build (vs := [(0, _), (1, _)]) (zs := [.d (.p (.int .i64 0)), .d (.p (.int .i64 0))]) pl113 inf113 rfl rfl rfl rfl) ?_
    refine AE1.go ?_
    refine AE2.sm rfl rfl (sm_sliceG (vs := [(0, _)]) (zs := [.d (.p (.int .i64 0)), .d (.p (.int .i64 0))]) 56 Try.underlying111 inf113 rfl rfl (by decide) (by decide) (by decide) rfl rfl rfl rfl (by first | rfl | (simp only [S.clean, S.put, S.newObj, List.all_cons, objs_clean_low, Nat.reduceLT]; simp [S.forget, V.has, V.hasL, junkIf, setL, V.cs, hasL_i, hasL_b, hasL_s, hasL_n, hasL_rep, hasL_flat, hasL_append, cells_hasL_low, has_ownV, hasL_frep, nb1, nb2, nb3, nb4, -List.map_set]; try omega)) rfl rfl) (by first | decide | omega) ?_
    (refine AE2.st rfl rfl (st_append_famX (lits := [_, _, _, _, _, _]) (x' := Pf ++ [(k, w)]) (m := 0) (newrow := [.p (.int .i64 (k : Int)), .p (.int .i64 (w : Int))]) (rb := 23) Try.underlying111 inf113 rfl (by decide) (by decide) rfl rfl rfl (by assumption) (fun _ => rfl) (by intro x l hl; simp [FE] at hl; first | (obtain ⟨_, _, rfl⟩ := hl; rfl) | (obtain ⟨_, _, _, rfl⟩ := hl; rfl) | (rcases hl with ⟨_, _, rfl⟩ <;> rfl)) rfl rfl rfl rfl rfl rfl rfl rfl (by simp [FE]) rfl rfl (by simp [V.hasL, V.has, nb1, nb2, nb3, nb4, setL, V.cs, hasL_i, hasL_b, hasL_s, hasL_n, hasL_rep, hasL_flat, hasL_append, -List.map_set]; try omega) (by first | assumption | (simp [FE]; omega))) ?_)
    try simp only [S.put, S.newObj, List.map_cons, List.map_nil, junkHi, V.low, V.lowL, low_ownV, Nat.reduceLT, decide_true, decide_false, Bool.and_true, Bool.true_and, if_true, if_false, Bool.false_eq_true, ite_true, ite_false, ↓reduceIte, List.cons_append, List.nil_append]
    refine AD3.rp1 rfl rfl rfl rfl (rp_index_own Try.underlying110 inf111 rfl rfl rfl rfl (by first | assumption | omega)) ?_
    (refine AD3.st rfl rfl rfl (st_store_fam (m := 0) inf111 rfl rfl rfl rfl rfl rfl (fun _ => rfl) rfl rfl (by first | assumption | (simp; omega))) ?_)
    refine AD3.nil ?_
    try simp only [thenS, S.put, S.newObj, setL, V.cs, List.length_cons, List.length_nil, List.take_succ_cons, List.take_zero, List.drop_succ_cons, List.drop_zero, List.drop_nil, List.nil_append, List.cons_append, List.append_nil, Nat.zero_add, Nat.reduceAdd, List.map_cons, List.map_nil, List.set_cons_zero, List.set_cons_succ]
    refine AW.region ?_
    refine AL.rp rfl rfl (rp_add rfl rfl rfl (by first | omega | (dsimp only; omega))) ?_
    refine AL.rp rfl rfl (rp_move rfl rfl) ?_
    refine AL.nil ?_
    try simp only [thenS, S.put, List.nil_append, List.cons_append]
    refine ⟨_, ?_, ⟨i + 1, by omega, rfl⟩, ?_⟩
    ·rw [← hnext]; exact (Less.of rfl (by repeat (first | exact trivial | refine ⟨⟨_, rfl, Wk.refl _⟩, ?_⟩ | refine ⟨⟨_, rfl, Wk.nil _ _⟩, ?_⟩ | refine ⟨⟨_, rfl, Wk.junk _⟩, ?_⟩)) (by repeat (first | exact trivial | refine ⟨rfl, ?_⟩ | exact LH.fam | refine LH.skip (by decide) ?_)) rfl)
    ·simp [S.nat, fnd]; omega
   ·have e : (bl (fun p => eInto sts p k ++ eTo p k (xa.take i)) n) = (bl (fun p => eInto sts p (k + 1)) n) := bl_congr fun q _ => by rw [List.take_of_length_le (by omega), eInto, hstA]
    rw [e]
    refine AW.seq ?_
    refine AW.region ?_
    (refine AL.rp rfl rfl (rp_lssF rfl rfl rfl (by first | assumption | omega | (dsimp only; omega))) ?_)
    refine AL.nil ?_
    try simp only [thenS, S.put, List.nil_append, List.cons_append]
    refine AW.seq ?_
    refine AW.condF rfl ?_
    refine AW.exit ?_
    try simp only [thenS, inBlockS, ↓reduceIte, Nat.reduceEqDiff, List.nil_append, List.cons_append]
    refine AW.region ?_
    refine AL.rp rfl rfl (rp_add rfl rfl rfl (by first | omega | (dsimp only; omega))) ?_
    refine AL.rp rfl rfl (rp_move rfl rfl) ?_
    refine AL.nil ?_
    try simp only [thenS, S.put, List.nil_append, List.cons_append]
    refine ⟨_, ?_, ⟨k + 1, by omega, rfl⟩, ?_⟩
    ·exact (Less.of rfl (by repeat (first | exact trivial | refine ⟨⟨_, rfl, Wk.refl _⟩, ?_⟩ | refine ⟨⟨_, rfl, Wk.nil _ _⟩, ?_⟩ | refine ⟨⟨_, rfl, Wk.junk _⟩, ?_⟩)) (by repeat (first | exact trivial | refine ⟨rfl, ?_⟩ | exact LH.fam | refine LH.skip (by decide) ?_)) rfl)
    ·simp [S.nat, fnd]; omega
  ·obtain rfl : k = n := by omega
   obtain ⟨n, rfl⟩ : ∃ n, n = k := ⟨_, rfl⟩
   have hBe : (bl (fun p => eInto sts p n) n) = (enE ⟨st, sts⟩) := by rw [hEr]
   have hCe : (bl (fun q => if q < n then stF sts q else 0) n) = (enF ⟨st, sts⟩) := by rw [hFr]; exact bl_congr fun q hq => by rw [if_pos hq]
   rw [hBe, hCe]
   refine AW.seq ?_
   refine AW.region ?_
   (refine AL.rp rfl rfl (rp_lssF rfl rfl rfl (by first | assumption | omega | (dsimp only; omega))) ?_)
   refine AL.nil ?_
   try simp only [thenS, S.put, List.nil_append, List.cons_append]
   refine AW.seq ?_
   refine AW.condF rfl ?_
   refine AW.exit ?_
   try simp only [thenS, inBlockS, ↓reduceIte, Nat.reduceEqDiff, List.nil_append, List.cons_append]
   refine AW.seq ?_
   refine AW.less (s' := ⟨66, [(1, .ref 1 0), (5, .own 19 1 n false), (6, .own 23 1 n false)], [(1, ⟨24, [.i st, .d (stsD sts)], false, 0⟩), (19, ⟨3, (enF ⟨st, sts⟩).map V.n, false, 1⟩), (23, ⟨111, FE.cells 1000 (enE ⟨st, sts⟩), false, 1⟩)] ++ FE.objs 1000 (enE ⟨st, sts⟩), []⟩) (Less.of rfl (by repeat (first | exact trivial | refine ⟨⟨_, rfl, Wk.refl _⟩, ?_⟩ | refine ⟨⟨_, rfl, Wk.nil _ _⟩, ?_⟩ | refine ⟨⟨_, rfl, Wk.junk _⟩, ?_⟩)) (by repeat (first | exact trivial | refine ⟨rfl, ?_⟩ | exact LH.fam | refine LH.skip (by decide) ?_)) rfl) ?_
   refine AW.famFreeze (F := FE) (m := 0) (base := 1000) (L := (enE ⟨st, sts⟩)) [_, _, _] 23 rfl rfl rfl rfl (fun _ => rfl) (by intro x l hl; simp [FE] at hl; obtain ⟨_, _, _, rfl⟩ := hl; rfl) ?_ rfl (by simp [V.hasL, V.has]) rfl rfl ?_
   ·intro l hl
    have := (hEl l hl).1
    simp [FE]; omega
   refine AW.freeze 6 24 ((enE ⟨st, sts⟩).map FE.data) rfl rfl rfl (by rw [List.length_map, hEr, bl_len]) (by omega) (rowsF (sz := 1) (fun _ => rfl) rfl) ?_
   refine AW.freeze 5 8 ((enF ⟨st, sts⟩).map encN) rfl rfl rfl (by rw [List.length_map, hFr, bl_len]) (by omega) (rows1 rfl) ?_
   refine AW.less (s' := ⟨66, [(1, .ref 1 0), (5, .d (intsN (enF ⟨st, sts⟩))), (6, .d (.sl 1 24 ((enE ⟨st, sts⟩).map encE)))], [(1, ⟨24, [.i st, .d (stsD sts)], false, 0⟩)], []⟩) (Less.of rfl (by repeat (first | exact trivial | refine ⟨⟨_, rfl, Wk.refl _⟩, ?_⟩ | refine ⟨⟨_, rfl, Wk.nil _ _⟩, ?_⟩ | refine ⟨⟨_, rfl, Wk.junk _⟩, ?_⟩)) (by repeat (first | exact trivial | refine ⟨rfl, ?_⟩ | exact LH.fam | refine LH.skip (by decide) ?_)) rfl) ?_
   refine AW.region ?_
   refine AL.rp rfl rfl (rp_move rfl rfl) ?_
   refine AL.rp rfl rfl (rp_move rfl rfl) ?_
   refine AL.callo (post := ?pc1) rfl (sm_callo (args := [_, _]) ?hc1 ⟨Try.func89, rfl, rfl, rfl, rfl⟩ rfl rfl rfl rfl ?fc1) ?_
   case hc1 => exact hfar
   case fc1 => exact (by rintro _ _ ⟨rfl, rfl⟩; first | rfl | simp [S.clean, S.put, S.newObj, S.forget, V.has, V.hasL, junkIf, setL, V.cs, hasL_i, hasL_b, hasL_s, hasL_n, hasL_rep, hasL_flat, hasL_append])
   rintro _ _ ⟨rfl, rfl⟩
   try dsimp only
   refine AL.rp rfl rfl (rp_extract rfl rfl rfl) ?_
   refine AL.rp rfl rfl (rp_extract rfl rfl rfl) ?_
   refine AL.rp rfl rfl (rp_assign rfl rfl) ?_
   refine AL.rp rfl rfl (rp_assign rfl rfl) ?_
   refine AL.nil ?_
   try simp only [thenS, S.put, S.newObj, setL, V.cs, List.length_cons, List.length_nil, List.take_succ_cons, List.take_zero, List.drop_succ_cons, List.drop_zero, List.drop_nil, List.nil_append, List.cons_append, List.append_nil, Nat.zero_add, Nat.reduceAdd, List.map_cons, List.map_nil, List.set_cons_zero, List.set_cons_succ]
   refine AW.ret ?_
   exact ⟨[_, _], [(21, ⟨3, D.map V.n, false, 1⟩)], ⟨rfl, rfl, trivial⟩, ⟨rfl, trivial⟩, ⟨by rw [hn]; rfl, rfl⟩, by simp [tupOf, V.has, V.hasL], fun r row k h1 h2 => by
      simp only [fnd, beq_iff_eq] at h1
      split at h1
      ·cases h1; rw [hasL_n] at h2; cases h2
      ·cases h1⟩
end Go.Proofs.Ytjbldphpkkmdpaa
