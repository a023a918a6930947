/- turn.Reverse. -/
import Derived.Test.YtdpniifajmpmkaaAmCheck
import Derived.Test.YtdpniifajmpmkaaAmX
import Derived.Test.YtdpniifajmpmkaaRev
namespace Go.Proofs.Ytdpniifajmpmkaa
open Go.RowKit
set_option linter.unusedSimpArgs false
set_option linter.unusedVariables false
set_option maxRecDepth 100000

def FS : Fam St := ⟨74, 4, 32, fun s => [.p (.int .i64 s.fin)], fun s => s.arcs.map arD⟩
set_option maxHeartbeats 1000000 in
theorem am_Reverse0 (m : Mach) : Fn Try.prog 19 [mV m] (fun v => resP (revE m) (revR m) v) := by
  by_cases h0 : machE m = 0
  · obtain ⟨h60, h400, hst, hz⟩ := machE_zero h0
    obtain ⟨ha1, ha2⟩ := rev_arcN h0
    have hchk := rev_machE h0
    have hE : revE m = if 60 < (revM m).states.length ∨ 400 < arcN (revM m).states then 5 else 0 := by unfold revE; rw [if_neg (by simp [h0])]
    have hR : revE m = 0 → revR m = revM m := fun h => by unfold revR; rw [if_pos h]
    obtain ⟨e, he⟩ : ∃ e, revE m = e := ⟨_, rfl⟩
    obtain ⟨R, hRd⟩ : ∃ R, revR m = R := ⟨_, rfl⟩
    rw [he] at hE hR ⊢
    rw [hRd] at hR ⊢
    clear he hRd
    obtain ⟨st, sts⟩ := m
    have hM : revM ⟨st, sts⟩ = ⟨0, revL (firstL sts sts.length) (fun p => if st = (p : Int) then 0 else 1000000001) (fun p => intoL sts p sts.length) sts.length⟩ := rfl
    have hcheck := am_Check (revM ⟨st, sts⟩)
    rw [hchk] at hcheck
    rw [hM] at ha1 ha2 hE hR hcheck
    simp only at h60 h400 hst hz ha1 ha2 hE hcheck
    have hal4 : ∀ x ∈ sts, x.arcs.length ≤ 400 := fun x hx => Nat.le_trans (arcN_mem sts x hx) h400
    obtain ⟨n, hn⟩ : ∃ n, sts.length = n := ⟨_, rfl⟩
    rw [hn] at h60 hst hz ha1 ha2 hE hR hcheck
    clear hM hchk
    refine Fn.intro (n := 90) ⟨Try.func19, rfl, rfl, rfl, rfl⟩ (by simp [V.pure, V.has, V.hasL]) (by simp) fun w0 out => ?_
    refine AW.seq ?_
    refine AW.region ?_
    refine AL.sm rfl (sm_box 1 rfl rfl rfl (by first | rfl | (simp only [S.clean, S.put, S.newObj, List.all_cons, objs_clean_low, Nat.reduceLT]; simp [S.forget, V.has, V.hasL, junkIf, setL, V.cs, hasL_i, hasL_b, hasL_s, hasL_n, hasL_rep, hasL_flat, hasL_append, cells_hasL_low, has_ownV, hasL_frep, nb1, nb2, nb3, nb4, -List.map_set]; try omega)) rfl) ?_
    refine AL.sm rfl (sm_alloc (l := [.d (.p (.int .i64 0)), .d (.p (.slice none 0 0))]) 2 inf24 rfl (by first | rfl | (simp only [S.clean, S.put, S.newObj, List.all_cons, objs_clean_low, Nat.reduceLT]; simp [S.forget, V.has, V.hasL, junkIf, setL, V.cs, hasL_i, hasL_b, hasL_s, hasL_n, hasL_rep, hasL_flat, hasL_append, cells_hasL_low, has_ownV, hasL_frep, nb1, nb2, nb3, nb4, -List.map_set]; try omega)) rfl rfl) ?_
    refine AL.rp rfl rfl (rp_assign rfl rfl) ?_
    refine AL.nil ?_
    try simp only [thenS, S.put, S.newObj, setL, V.cs, List.length_cons, List.length_nil, List.take_succ_cons, List.take_zero, List.drop_succ_cons, List.drop_zero, List.drop_nil, List.nil_append, List.cons_append, List.append_nil, Nat.zero_add, Nat.reduceAdd, List.map_cons, List.map_nil, List.set_cons_zero, List.set_cons_succ, enum]
    refine AW.seq ?_
    refine AW.seq ?_
    refine AW.region ?_
    (first | (refine AL.rd rfl rfl (rd_loads_ref Try.underlying24 rfl inf24 rfl rfl rfl rfl rfl rfl) ?_) | (refine AL.rd rfl rfl (rd_loads_ad Try.underlying24 rfl inf24 rfl rfl rfl rfl) ?_))
    refine AL.call (post := ?pc0) rfl (sm_call (args := [_]) ?hc0 ⟨Try.func55, rfl, rfl, rfl, rfl⟩ rfl rfl rfl rfl) ?_
    case hc0 => exact Fn.eqi (am_Check ⟨st, sts⟩) h0
    rintro _ rfl -
    try dsimp only
    refine AL.rp rfl rfl (rp_assign rfl rfl) ?_
    refine AL.nil ?_
    try simp only [thenS, S.put, S.newObj, setL, V.cs, List.length_cons, List.length_nil, List.take_succ_cons, List.take_zero, List.drop_succ_cons, List.drop_zero, List.drop_nil, List.nil_append, List.cons_append, List.append_nil, Nat.zero_add, Nat.reduceAdd, List.map_cons, List.map_nil, List.set_cons_zero, List.set_cons_succ]
    refine AW.seq ?_
    refine AW.region ?_
    refine AL.rp rfl rfl (rp_move rfl rfl) ?_
    (first | (refine AL.rp rfl rfl (rp_neqT rfl rfl rfl (by first | assumption | omega)) ?_) | (refine AL.rp rfl rfl (rp_neqF rfl rfl rfl (by first | assumption | omega)) ?_) | (refine AL.rp rfl rfl (rp_neq rfl rfl rfl) ?_))
    refine AL.nil ?_
    try simp only [thenS, S.put, List.nil_append, List.cons_append]
    refine AW.condF rfl ?_
    refine AW.skip ?_
    try simp only [thenS, List.nil_append, List.cons_append]
    refine AW.seq ?_
    refine AW.region ?_
    (first | (refine AL.rp rfl rfl (rp_field_ref Try.underlying24 rfl rfl rfl inf22 (by decide) rfl) ?_) | (refine AL.rp rfl rfl (rp_field_ad Try.underlying24 rfl rfl rfl inf22 (by decide) rfl) ?_))
    (first | (refine AL.rd rfl rfl (rd_load_ref Try.underlying22 rfl rfl rfl rfl rfl rfl) ?_) | (refine AL.rd rfl rfl (rd_load_ad Try.underlying22 rfl rfl rfl rfl) ?_) | (refine AL.rd rfl rfl (rd_load_map Try.underlying22 rfl rfl rfl rfl rfl rfl (by assumption)) ?_) | (refine AL.rd rfl rfl (rd_load_fam (m := 0) Try.underlying22 rfl rfl rfl rfl rfl rfl (fun _ => rfl) rfl (by assumption)) ?_) | (refine AL.rd rfl rfl (rd_load_fam (m := 1) Try.underlying22 rfl rfl rfl rfl rfl rfl (fun _ => rfl) rfl (by assumption)) ?_) | (refine AL.rd rfl rfl (rd_load_fpre (m := 1) Try.underlying22 rfl rfl rfl rfl rfl rfl (fun _ => rfl) rfl (by assumption) rfl) ?_))
    (first | (refine AL.rp rfl rfl (rp_len_map Try.underlying22 rfl rfl (by assumption)) ?_) | (refine AL.rp rfl rfl (rp_len_own Try.underlying22 rfl rfl) ?_) | (refine AL.rp rfl rfl (rp_len_sl Try.underlying22 rfl rfl) ?_) | (refine AL.rp rfl rfl (rp_len_nil Try.underlying22 rfl rfl) ?_) | (refine AL.rp rfl rfl (rp_len_str Try.underlying22 rfl rfl) ?_))
    refine AL.rp rfl rfl (rp_add rfl rfl rfl (by omega)) ?_
    refine AL.sm rfl (sm_makeN (n := n + 1) (zs := [.d (.p (.int .i64 0)), .d (.p (.slice none 0 0))]) 23 Try.underlying22 inf62 rfl rfl (by decide) rfl rfl (by omega) (by omega) (by decide) (by first | rfl | (simp only [S.clean, S.put, S.newObj, List.all_cons, objs_clean_low, Nat.reduceLT]; simp [S.forget, V.has, V.hasL, junkIf, setL, V.cs, hasL_i, hasL_b, hasL_s, hasL_n, hasL_rep, hasL_flat, hasL_append, cells_hasL_low, has_ownV, hasL_frep, nb1, nb2, nb3, nb4, -List.map_set]; try omega)) rfl) ?_
    refine AL.rp rfl rfl (rp_build (vs := [(1, _)]) (zs := [.d (.p (.int .i64 0)), .d (.p (.slice none 0 0))]) pl24 inf24 rfl rfl rfl rfl) ?_
    refine AL.sm rfl (sm_alloc (l := [.d (.p (.int .i64 0)), .d (.p (.slice none 0 0))]) 5 inf24 rfl (by first | rfl | (simp only [S.clean, S.put, S.newObj, List.all_cons, objs_clean_low, Nat.reduceLT]; simp [S.forget, V.has, V.hasL, junkIf, setL, V.cs, hasL_i, hasL_b, hasL_s, hasL_n, hasL_rep, hasL_flat, hasL_append, cells_hasL_low, has_ownV, hasL_frep, nb1, nb2, nb3, nb4, -List.map_set]; try omega)) rfl rfl) ?_
    refine AL.st rfl (st_store_any inf24 rfl rfl rfl rfl rfl rfl rfl rfl (by first | decide | (simp; omega)) rfl) ?_
    refine AL.nil ?_
    try simp only [thenS, S.put, S.newObj, setL, V.cs, List.length_cons, List.length_nil, List.take_succ_cons, List.take_zero, List.drop_succ_cons, List.drop_zero, List.drop_nil, List.nil_append, List.cons_append, List.append_nil, Nat.zero_add, Nat.reduceAdd, List.map_cons, List.map_nil, List.set_cons_zero, List.set_cons_succ]
    refine AW.seq ?_
    refine AW.seq ?_
    refine AW.famAdopt FS 1000 23 (List.replicate (n + 1) ⟨0, []⟩) rfl rfl (by rw [flatMap_rep]; rfl) (by intro x hx; rw [List.eq_of_mem_replicate hx]; rfl) rfl ?_
    refine AW.region ?_
    (first | (refine AL.rp rfl rfl (rp_field_ref Try.underlying24 rfl rfl rfl inf22 (by decide) rfl) ?_) | (refine AL.rp rfl rfl (rp_field_ad Try.underlying24 rfl rfl rfl inf22 (by decide) rfl) ?_))
    (first | (refine AL.rd rfl rfl (rd_load_ref Try.underlying22 rfl rfl rfl rfl rfl rfl) ?_) | (refine AL.rd rfl rfl (rd_load_ad Try.underlying22 rfl rfl rfl rfl) ?_) | (refine AL.rd rfl rfl (rd_load_map Try.underlying22 rfl rfl rfl rfl rfl rfl (by assumption)) ?_) | (refine AL.rd rfl rfl (rd_load_fam (m := 0) Try.underlying22 rfl rfl rfl rfl rfl rfl (fun _ => rfl) rfl (by assumption)) ?_) | (refine AL.rd rfl rfl (rd_load_fam (m := 1) Try.underlying22 rfl rfl rfl rfl rfl rfl (fun _ => rfl) rfl (by assumption)) ?_) | (refine AL.rd rfl rfl (rd_load_fpre (m := 1) Try.underlying22 rfl rfl rfl rfl rfl rfl (fun _ => rfl) rfl (by assumption) rfl) ?_))
    (first | (refine AL.rp rfl rfl (rp_len_map Try.underlying22 rfl rfl (by assumption)) ?_) | (refine AL.rp rfl rfl (rp_len_own Try.underlying22 rfl rfl) ?_) | (refine AL.rp rfl rfl (rp_len_sl Try.underlying22 rfl rfl) ?_) | (refine AL.rp rfl rfl (rp_len_nil Try.underlying22 rfl rfl) ?_) | (refine AL.rp rfl rfl (rp_len_str Try.underlying22 rfl rfl) ?_))
    refine AL.rp rfl rfl (rp_move rfl rfl) ?_
    refine AL.nil ?_
    try simp only [thenS, S.put, List.nil_append, List.cons_append]
    refine AW.block ?_
    refine AW.loop (fun s' => ∃ k : Nat, k ≤ n + 1 ∧ s' = ⟨90, [(1, .ref 1 0), (2, .ref 2 0), (5, .ref 5 0), (27, .i ((n + 1 : Nat) : Int)), (28, .i k)], [(1, ⟨24, [.i st, .d (stsD sts)], false, 0⟩), (2, ⟨24, [.i 0, .nil], false, 0⟩), (5, ⟨24, [.i 0, .own 23 2 (n + 1) false], false, 0⟩), (23, ⟨62, FS.cells 1000 (part (fun _ => (⟨1000000001, []⟩ : St)) k (List.replicate (n + 1) ⟨0, []⟩)), false, 2⟩)] ++ FS.objs 1000 (part (fun _ => (⟨1000000001, []⟩ : St)) k (List.replicate (n + 1) ⟨0, []⟩)), []⟩) (fun s' => n + 1 - s'.nat 28) ⟨_, ?_, 0, by omega, rfl⟩ ?_
    · rw [part_zero]; exact (Less.of rfl (by repeat (first | exact trivial | refine ⟨⟨_, rfl, Wk.refl _⟩, ?_⟩ | refine ⟨⟨_, rfl, Wk.nil _ _⟩, ?_⟩ | refine ⟨⟨_, rfl, Wk.junk _⟩, ?_⟩)) (by repeat (first | exact trivial | refine ⟨rfl, ?_⟩ | exact LH.fam | refine LH.skip (by decide) ?_)) rfl)
    rintro s' ⟨k, hk, rfl⟩
    by_cases hlt : k < n + 1
    · have hx0 : (List.replicate (n + 1) (⟨0, []⟩ : St))[k]? = some ⟨0, []⟩ := by simp [List.getElem?_replicate, hlt]
      have hpx := part_get (f := fun _ => (⟨1000000001, []⟩ : St)) hx0
      have hst2 := part_set (f := fun _ => (⟨1000000001, []⟩ : St)) hx0
      refine AW.seq ?_
      refine AW.region ?_
      (first | (refine AL.rp rfl rfl (rp_lssT rfl rfl rfl (by first | assumption | omega)) ?_) | (refine AL.rp rfl rfl (rp_lssF rfl rfl rfl (by first | assumption | omega)) ?_) | (refine AL.rp rfl rfl (rp_lss rfl rfl rfl) ?_))
      refine AL.nil ?_
      try simp only [thenS, S.put, List.nil_append, List.cons_append]
      refine AW.seq ?_
      refine AW.condT rfl ?_
      refine AW.skip ?_
      try simp only [thenS, List.nil_append, List.cons_append]
      refine AW.seq ?_
      refine AW.block ?_
      refine AW.seq ?_
      refine AW.region ?_
      refine AL.rp rfl rfl (rp_move rfl rfl) ?_
      refine AL.rp rfl rfl (rp_assign rfl rfl) ?_
      refine AL.nil ?_
      try simp only [thenS, S.put, List.nil_append, List.cons_append]
      refine AW.region ?_
      (first | (refine AL.rp rfl rfl (rp_field_ref Try.underlying24 rfl rfl rfl inf22 (by decide) rfl) ?_) | (refine AL.rp rfl rfl (rp_field_ad Try.underlying24 rfl rfl rfl inf22 (by decide) rfl) ?_))
      (first | (refine AL.rd rfl rfl (rd_load_ref Try.underlying22 rfl rfl rfl rfl rfl rfl) ?_) | (refine AL.rd rfl rfl (rd_load_ad Try.underlying22 rfl rfl rfl rfl) ?_) | (refine AL.rd rfl rfl (rd_load_map Try.underlying22 rfl rfl rfl rfl rfl rfl (by assumption)) ?_) | (refine AL.rd rfl rfl (rd_load_fam (m := 0) Try.underlying22 rfl rfl rfl rfl rfl rfl (fun _ => rfl) rfl (by assumption)) ?_) | (refine AL.rd rfl rfl (rd_load_fam (m := 1) Try.underlying22 rfl rfl rfl rfl rfl rfl (fun _ => rfl) rfl (by assumption)) ?_) | (refine AL.rd rfl rfl (rd_load_fpre (m := 1) Try.underlying22 rfl rfl rfl rfl rfl rfl (fun _ => rfl) rfl (by assumption) rfl) ?_))
      refine AL.rp rfl rfl (rp_move rfl rfl) ?_
      (first | (refine AL.rp rfl rfl (rp_index_map Try.underlying22 inf62 rfl rfl rfl rfl (by assumption)) ?_) | (refine AL.rp rfl rfl (rp_index_own Try.underlying22 inf62 rfl rfl rfl rfl (by first | assumption | omega)) ?_) | (refine AL.rp rfl rfl (rd_index_sl Try.underlying22 inf62 rfl rfl rfl rfl (by assumption)) ?_) | (refine AL.rp rfl rfl (rp_index_own Try.underlying22 inf62 rfl rfl rfl (by omega) (by omega)) ?_))
      (first | (refine AL.rp rfl rfl (rp_field_ref Try.underlying62 rfl rfl rfl inf3 (by decide) rfl) ?_) | (refine AL.rp rfl rfl (rp_field_ad Try.underlying62 rfl rfl rfl inf3 (by decide) rfl) ?_))
      (first | (refine AL.st rfl (st_store_fpre (lits := [_, _, _, _]) (m := 1) (⟨1000000001, []⟩) inf3 rfl rfl rfl rfl rfl rfl rfl (fun _ => rfl) rfl rfl (by assumption) (by decide) rfl (by rfl) (by rfl)) ?_))
      try simp only [S.put, S.newObj, List.map_cons, List.map_nil, junkHi, V.low, V.lowL, low_ownV, Nat.reduceLT, decide_true, decide_false, Bool.and_true, Bool.true_and, if_true, if_false, Bool.false_eq_true, ite_true, ite_false, ↓reduceIte, List.cons_append, List.nil_append]
      refine AL.nil ?_
      try simp only [thenS, S.put, S.newObj, setL, V.cs, List.length_cons, List.length_nil, List.take_succ_cons, List.take_zero, List.drop_succ_cons, List.drop_zero, List.drop_nil, List.nil_append, List.cons_append, List.append_nil, Nat.zero_add, Nat.reduceAdd, List.map_cons, List.map_nil, List.set_cons_zero, List.set_cons_succ]
      refine AW.region ?_
      refine AL.rp rfl rfl (rp_add rfl rfl rfl (by omega)) ?_
      refine AL.rp rfl rfl (rp_move rfl rfl) ?_
      refine AL.nil ?_
      try simp only [thenS, S.put, List.nil_append, List.cons_append]
      refine ⟨_, ?_, ⟨k + 1, by omega, rfl⟩, ?_⟩
      · rw [← hst2]; exact (Less.of rfl (by repeat (first | exact trivial | refine ⟨⟨_, rfl, Wk.refl _⟩, ?_⟩ | refine ⟨⟨_, rfl, Wk.nil _ _⟩, ?_⟩ | refine ⟨⟨_, rfl, Wk.junk _⟩, ?_⟩)) (by repeat (first | exact trivial | refine ⟨rfl, ?_⟩ | exact LH.fam | refine LH.skip (by decide) ?_)) rfl)
      · simp [S.nat, fnd]; omega
    · obtain rfl : k = n + 1 := by omega
      rw [part_full _ (by simp), List.map_replicate, revL_rep]
      refine AW.seq ?_
      refine AW.region ?_
      (first | (refine AL.rp rfl rfl (rp_lssT rfl rfl rfl (by first | assumption | omega)) ?_) | (refine AL.rp rfl rfl (rp_lssF rfl rfl rfl (by first | assumption | omega)) ?_) | (refine AL.rp rfl rfl (rp_lss rfl rfl rfl) ?_))
      refine AL.nil ?_
      try simp only [thenS, S.put, List.nil_append, List.cons_append]
      refine AW.seq ?_
      refine AW.condF rfl ?_
      refine AW.exit ?_
      try simp only [thenS, inBlockS, ↓reduceIte, Nat.reduceEqDiff, List.nil_append, List.cons_append]
      refine AW.seq ?_
      refine AW.region ?_
      refine AL.rp rfl rfl (rp_func (vs := [_]) rfl rfl) ?_
      refine AL.rp rfl rfl (rp_assign rfl rfl) ?_
      refine AL.nil ?_
      try simp only [thenS, S.put, List.nil_append, List.cons_append]
      refine AW.seq ?_
      refine AW.seq ?_
      refine AW.region ?_
      (first | (refine AL.rp rfl rfl (rp_field_ref Try.underlying24 rfl rfl rfl inf22 (by decide) rfl) ?_) | (refine AL.rp rfl rfl (rp_field_ad Try.underlying24 rfl rfl rfl inf22 (by decide) rfl) ?_))
      (first | (refine AL.rd rfl rfl (rd_load_ref Try.underlying22 rfl rfl rfl rfl rfl rfl) ?_) | (refine AL.rd rfl rfl (rd_load_ad Try.underlying22 rfl rfl rfl rfl) ?_) | (refine AL.rd rfl rfl (rd_load_map Try.underlying22 rfl rfl rfl rfl rfl rfl (by assumption)) ?_) | (refine AL.rd rfl rfl (rd_load_fam (m := 0) Try.underlying22 rfl rfl rfl rfl rfl rfl (fun _ => rfl) rfl (by assumption)) ?_) | (refine AL.rd rfl rfl (rd_load_fam (m := 1) Try.underlying22 rfl rfl rfl rfl rfl rfl (fun _ => rfl) rfl (by assumption)) ?_) | (refine AL.rd rfl rfl (rd_load_fpre (m := 1) Try.underlying22 rfl rfl rfl rfl rfl rfl (fun _ => rfl) rfl (by assumption) rfl) ?_))
      (first | (refine AL.rp rfl rfl (rp_len_map Try.underlying22 rfl rfl (by assumption)) ?_) | (refine AL.rp rfl rfl (rp_len_own Try.underlying22 rfl rfl) ?_) | (refine AL.rp rfl rfl (rp_len_sl Try.underlying22 rfl rfl) ?_) | (refine AL.rp rfl rfl (rp_len_nil Try.underlying22 rfl rfl) ?_) | (refine AL.rp rfl rfl (rp_len_str Try.underlying22 rfl rfl) ?_))
      refine AL.rp rfl rfl (rp_move rfl rfl) ?_
      refine AL.nil ?_
      try simp only [thenS, S.put, List.nil_append, List.cons_append]
      refine AW.block ?_
      refine AW.loop (fun s' => ∃ k : Nat, k ≤ n ∧ s' = ⟨90, [(1, .ref 1 0), (2, .ref 2 0), (5, .ref 5 0), (7, .fn 56 [.ref 5 0]), (39, .d (stsD sts)), (40, .i n), (41, .i k)], [(1, ⟨24, [.i st, .d (stsD sts)], false, 0⟩), (2, ⟨24, [.i 0, .nil], false, 0⟩), (5, ⟨24, [.i 0, .own 23 2 (n + 1) false], false, 0⟩), (23, ⟨62, FS.cells 1000 (revL (firstL sts k) (fun _ => 1000000001) (fun p => intoL sts p k) n), false, 2⟩)] ++ FS.objs 1000 (revL (firstL sts k) (fun _ => 1000000001) (fun p => intoL sts p k) n), []⟩) (fun s' => n - s'.nat 41) ⟨_, ?_, 0, by omega, rfl⟩ ?_
      · exact (Less.of rfl (by repeat (first | exact trivial | refine ⟨⟨_, rfl, Wk.refl _⟩, ?_⟩ | refine ⟨⟨_, rfl, Wk.nil _ _⟩, ?_⟩ | refine ⟨⟨_, rfl, Wk.junk _⟩, ?_⟩)) (by repeat (first | exact trivial | refine ⟨rfl, ?_⟩ | exact LH.fam | refine LH.skip (by decide) ?_)) rfl)
      clear hlt hk
      rintro s' ⟨k, hk, rfl⟩
      by_cases hlt : k < n
      · obtain ⟨x, hx⟩ := get_lt hn hlt
        obtain ⟨la, hla⟩ : ∃ n, x.arcs.length = n := ⟨_, rfl⟩
        have hla' := hal4 x (List.mem_of_getElem? hx)
        rw [hla] at hla'
        have hsn := firstL_succ hx
        have hfl := firstL_len sts k
        refine AW.seq ?_
        refine AW.region ?_
        (first | (refine AL.rp rfl rfl (rp_lssT rfl rfl rfl (by first | assumption | omega)) ?_) | (refine AL.rp rfl rfl (rp_lssF rfl rfl rfl (by first | assumption | omega)) ?_) | (refine AL.rp rfl rfl (rp_lss rfl rfl rfl) ?_))
        refine AL.nil ?_
        try simp only [thenS, S.put, List.nil_append, List.cons_append]
        refine AW.seq ?_
        refine AW.condT rfl ?_
        refine AW.skip ?_
        try simp only [thenS, List.nil_append, List.cons_append]
        refine AW.seq ?_
        refine AW.block ?_
        refine AW.seq ?_
        refine AW.region ?_
        refine AL.rp rfl rfl (rp_move rfl rfl) ?_
        (first | (refine AL.rp rfl rfl (rp_index_map Try.underlying22 inf62 rfl rfl rfl rfl (by assumption)) ?_) | (refine AL.rp rfl rfl (rp_index_own Try.underlying22 inf62 rfl rfl rfl rfl (by first | assumption | omega)) ?_) | (refine AL.rp rfl rfl (rd_index_sl Try.underlying22 inf62 rfl rfl rfl rfl (by assumption)) ?_) | (refine AL.rp rfl rfl (rp_index_own Try.underlying22 inf62 rfl rfl rfl (by omega) (by omega)) ?_))
        (first | (refine AL.rd rfl rfl (rd_loads_ref Try.underlying62 rfl inf62 rfl rfl rfl rfl rfl rfl) ?_) | (refine AL.rd rfl rfl (rd_loads_ad Try.underlying62 rfl inf62 rfl rfl rfl rfl) ?_))
        refine AL.sm rfl (sm_alloc (l := [.d (.p (.int .i64 0)), .d (.p (.slice none 0 0))]) 9 inf62 rfl (by first | rfl | (simp only [S.clean, S.put, S.newObj, List.all_cons, objs_clean_low, Nat.reduceLT]; simp [S.forget, V.has, V.hasL, junkIf, setL, V.cs, hasL_i, hasL_b, hasL_s, hasL_n, hasL_rep, hasL_flat, hasL_append, cells_hasL_low, has_ownV, hasL_frep, nb1, nb2, nb3, nb4, -List.map_set]; try omega)) rfl rfl) ?_
        refine AL.rp rfl rfl (rp_assign rfl rfl) ?_
        refine AL.st rfl (st_store_any inf62 rfl rfl rfl rfl rfl rfl rfl rfl (by first | decide | (simp; omega)) rfl) ?_
        refine AL.nil ?_
        try simp only [thenS, S.put, S.newObj, setL, V.cs, List.length_cons, List.length_nil, List.take_succ_cons, List.take_zero, List.drop_succ_cons, List.drop_zero, List.drop_nil, List.nil_append, List.cons_append, List.append_nil, Nat.zero_add, Nat.reduceAdd, List.map_cons, List.map_nil, List.set_cons_zero, List.set_cons_succ]
        refine AW.seqc (fun s' => s' = ⟨90, [(1, .ref 1 0), (2, .ref 2 0), (5, .ref 5 0), (7, .fn 56 [.ref 5 0]), (8, .i k), (9, .ref 9 0), (39, .d (stsD sts)), (40, .i n), (41, .i k)], [(1, ⟨24, [.i st, .d (stsD sts)], false, 0⟩), (2, ⟨24, [.i 0, .nil], false, 0⟩), (5, ⟨24, [.i 0, .own 23 2 (n + 1) false], false, 0⟩), (9, ⟨62, [.i x.fin, .d (arsD x.arcs)], false, 0⟩), (23, ⟨62, FS.cells 1000 (revL (firstL sts (k + 1)) (fun _ => 1000000001) (fun p => intoL sts p k) n), false, 2⟩)] ++ FS.objs 1000 (revL (firstL sts (k + 1)) (fun _ => 1000000001) (fun p => intoL sts p k) n), []⟩) ?_ ?_
        · skip
          by_cases hf : x.fin = 1000000001
          · rw [if_pos hf, List.append_nil] at hsn
            refine AW.seq ?_
            refine AW.region ?_
            (first | (refine AL.rp rfl rfl (rp_field_ref Try.underlying62 rfl rfl rfl inf3 (by decide) rfl) ?_) | (refine AL.rp rfl rfl (rp_field_ad Try.underlying62 rfl rfl rfl inf3 (by decide) rfl) ?_))
            (first | (refine AL.rd rfl rfl (rd_load_ref Try.underlying3 rfl rfl rfl rfl rfl rfl) ?_) | (refine AL.rd rfl rfl (rd_load_ad Try.underlying3 rfl rfl rfl rfl) ?_) | (refine AL.rd rfl rfl (rd_load_map Try.underlying3 rfl rfl rfl rfl rfl rfl (by assumption)) ?_) | (refine AL.rd rfl rfl (rd_load_fam (m := 0) Try.underlying3 rfl rfl rfl rfl rfl rfl (fun _ => rfl) rfl (by assumption)) ?_) | (refine AL.rd rfl rfl (rd_load_fam (m := 1) Try.underlying3 rfl rfl rfl rfl rfl rfl (fun _ => rfl) rfl (by assumption)) ?_) | (refine AL.rd rfl rfl (rd_load_fpre (m := 1) Try.underlying3 rfl rfl rfl rfl rfl rfl (fun _ => rfl) rfl (by assumption) rfl) ?_))
            (first | (refine AL.rp rfl rfl (rp_neqT rfl rfl rfl (by first | assumption | omega)) ?_) | (refine AL.rp rfl rfl (rp_neqF rfl rfl rfl (by first | assumption | omega)) ?_) | (refine AL.rp rfl rfl (rp_neq rfl rfl rfl) ?_))
            refine AL.nil ?_
            try simp only [thenS, S.put, List.nil_append, List.cons_append]
            refine AW.condF rfl ?_
            refine AW.skip ?_
            try simp only [thenS, List.nil_append, List.cons_append]
            refine ⟨_, ?_, rfl⟩
            rw [hsn]; exact (Less.of rfl (by repeat (first | exact trivial | refine ⟨⟨_, rfl, Wk.refl _⟩, ?_⟩ | refine ⟨⟨_, rfl, Wk.nil _ _⟩, ?_⟩ | refine ⟨⟨_, rfl, Wk.junk _⟩, ?_⟩)) (by repeat (first | exact trivial | refine ⟨rfl, ?_⟩ | exact LH.fam | refine LH.skip (by decide) ?_)) rfl)
          · rw [if_neg hf] at hsn
            have hp0 : (revL (firstL sts k) (fun _ => 1000000001) (fun p => intoL sts p k) n)[0]? = some ⟨1000000001, firstL sts k⟩ := rfl
            have hset : ((revL (firstL sts k) (fun _ => 1000000001) (fun p => intoL sts p k) n).set 0 ⟨1000000001, firstL sts k ++ [⟨0, 0, x.fin, (k : Int) + 1⟩]⟩)[0]? = some ⟨1000000001, firstL sts k ++ [⟨0, 0, x.fin, (k : Int) + 1⟩]⟩ := rfl
            have hlen0 : (FS.it ⟨1000000001, firstL sts k⟩).length ≤ 1000000 := by simp [FS]; omega
            refine AW.seq ?_
            refine AW.region ?_
            (first | (refine AL.rp rfl rfl (rp_field_ref Try.underlying62 rfl rfl rfl inf3 (by decide) rfl) ?_) | (refine AL.rp rfl rfl (rp_field_ad Try.underlying62 rfl rfl rfl inf3 (by decide) rfl) ?_))
            (first | (refine AL.rd rfl rfl (rd_load_ref Try.underlying3 rfl rfl rfl rfl rfl rfl) ?_) | (refine AL.rd rfl rfl (rd_load_ad Try.underlying3 rfl rfl rfl rfl) ?_) | (refine AL.rd rfl rfl (rd_load_map Try.underlying3 rfl rfl rfl rfl rfl rfl (by assumption)) ?_) | (refine AL.rd rfl rfl (rd_load_fam (m := 0) Try.underlying3 rfl rfl rfl rfl rfl rfl (fun _ => rfl) rfl (by assumption)) ?_) | (refine AL.rd rfl rfl (rd_load_fam (m := 1) Try.underlying3 rfl rfl rfl rfl rfl rfl (fun _ => rfl) rfl (by assumption)) ?_) | (refine AL.rd rfl rfl (rd_load_fpre (m := 1) Try.underlying3 rfl rfl rfl rfl rfl rfl (fun _ => rfl) rfl (by assumption) rfl) ?_))
            (first | (refine AL.rp rfl rfl (rp_neqT rfl rfl rfl (by first | assumption | omega)) ?_) | (refine AL.rp rfl rfl (rp_neqF rfl rfl rfl (by first | assumption | omega)) ?_) | (refine AL.rp rfl rfl (rp_neq rfl rfl rfl) ?_))
            refine AL.nil ?_
            try simp only [thenS, S.put, List.nil_append, List.cons_append]
            refine AW.condT rfl ?_
            refine AW.region ?_
            refine AL.rp rfl rfl (rp_move rfl rfl) ?_
            (first | (refine AL.rp rfl rfl (rp_field_ref Try.underlying62 rfl rfl rfl inf3 (by decide) rfl) ?_) | (refine AL.rp rfl rfl (rp_field_ad Try.underlying62 rfl rfl rfl inf3 (by decide) rfl) ?_))
            (first | (refine AL.rd rfl rfl (rd_load_ref Try.underlying3 rfl rfl rfl rfl rfl rfl) ?_) | (refine AL.rd rfl rfl (rd_load_ad Try.underlying3 rfl rfl rfl rfl) ?_) | (refine AL.rd rfl rfl (rd_load_map Try.underlying3 rfl rfl rfl rfl rfl rfl (by assumption)) ?_) | (refine AL.rd rfl rfl (rd_load_fam (m := 0) Try.underlying3 rfl rfl rfl rfl rfl rfl (fun _ => rfl) rfl (by assumption)) ?_) | (refine AL.rd rfl rfl (rd_load_fam (m := 1) Try.underlying3 rfl rfl rfl rfl rfl rfl (fun _ => rfl) rfl (by assumption)) ?_) | (refine AL.rd rfl rfl (rd_load_fpre (m := 1) Try.underlying3 rfl rfl rfl rfl rfl rfl (fun _ => rfl) rfl (by assumption) rfl) ?_))
            refine AL.rp rfl rfl (rp_move rfl rfl) ?_
            refine AL.rp rfl rfl (rp_add rfl rfl rfl (by omega)) ?_
            refine AL.rp rfl rfl (rp_build (vs := [(2, _), (3, _)]) (zs := [.d (.p (.int .i64 0)), .d (.p (.int .i64 0)), .d (.p (.int .i64 0)), .d (.p (.int .i64 0))]) pl74 inf74 rfl rfl rfl rfl) ?_
            refine AL.inline [1, 2, 5, 7, 8, 9, 39, 40, 41] (ts := [_, _, _, _, _, _, _, _, _]) (ars := [_, _]) rfl rfl ⟨Try.func56, rfl, rfl, rfl, rfl⟩ rfl rfl rfl (by simp) rfl fun kx => ?_
            try simp only [thenS, S.put, enum, List.nil_append, List.cons_append, List.append_nil, Nat.zero_add, Nat.reduceAdd]
            refine AW.seq ?_
            refine AW.region ?_
            refine AL.sm rfl (sm_box 4 rfl rfl rfl (by first | rfl | (simp only [S.clean, S.put, S.newObj, List.all_cons, objs_clean_low, Nat.reduceLT]; simp [S.forget, V.has, V.hasL, junkIf, setL, V.cs, hasL_i, hasL_b, hasL_s, hasL_n, hasL_rep, hasL_flat, hasL_append, cells_hasL_low, has_ownV, hasL_frep, nb1, nb2, nb3, nb4, -List.map_set]; try omega)) rfl) ?_
            refine AL.nil ?_
            try simp only [thenS, S.put, S.newObj, setL, V.cs, List.length_cons, List.length_nil, List.take_succ_cons, List.take_zero, List.drop_succ_cons, List.drop_zero, List.drop_nil, List.nil_append, List.cons_append, List.append_nil, Nat.zero_add, Nat.reduceAdd, List.map_cons, List.map_nil, List.set_cons_zero, List.set_cons_succ]
            refine AW.drawX (1000 + 0) [(0, true), (1, true), (2, true), (3, true), (4, true), (5, true), (6, true), (7, true), (8, true), (9, true), (10, false), (11, false), (12, false), (13, false), (14, false)] (fun i => !([12, 13, 14] : List Nat).contains i) 15 (by kernel_rfl) (by kernel_rfl) rfl (by kernel_rfl) ?_
            (first | (refine AE1.rp rfl rfl rfl (fun _ _ h => h) (rp_field_ref Try.underlying24 rfl rfl rfl inf22 (by decide) rfl) ?_) | (refine AE1.rp rfl rfl rfl (fun _ _ h => h) (rp_field_ad Try.underlying24 rfl rfl rfl inf22 (by decide) rfl) ?_))
            (first | (refine AE1.rx rfl rfl rfl (fun _ _ h => h) (rx_load_ref Try.underlying22 rfl rfl rfl rfl rfl rfl (by first | decide | omega)) ?_) | (refine AE1.rx rfl rfl rfl (fun _ _ h => h) (rx_load_ad Try.underlying22 rfl rfl rfl rfl) ?_) | (refine AE1.rx rfl rfl rfl (fun _ _ h => h) (rx_load_fam (m := 0) Try.underlying22 rfl rfl rfl rfl rfl rfl (fun _ => rfl) rfl (by assumption) (by first | decide | omega)) ?_) | (refine AE1.rx rfl rfl rfl (fun _ _ h => h) (rx_load_fam (m := 1) Try.underlying22 rfl rfl rfl rfl rfl rfl (fun _ => rfl) rfl (by assumption) (by first | decide | omega)) ?_))
            refine AE1.rp rfl rfl rfl (fun _ _ h => h) (rp_move rfl rfl) ?_
            (first | (refine AE1.rp rfl rfl rfl (fun _ _ h => h) (rp_field_ref Try.underlying24 rfl rfl rfl inf22 (by decide) rfl) ?_) | (refine AE1.rp rfl rfl rfl (fun _ _ h => h) (rp_field_ad Try.underlying24 rfl rfl rfl inf22 (by decide) rfl) ?_))
            (first | (refine AE1.rx rfl rfl rfl (fun _ _ h => h) (rx_load_ref Try.underlying22 rfl rfl rfl rfl rfl rfl (by first | decide | omega)) ?_) | (refine AE1.rx rfl rfl rfl (fun _ _ h => h) (rx_load_ad Try.underlying22 rfl rfl rfl rfl) ?_) | (refine AE1.rx rfl rfl rfl (fun _ _ h => h) (rx_load_fam (m := 0) Try.underlying22 rfl rfl rfl rfl rfl rfl (fun _ => rfl) rfl (by assumption) (by first | decide | omega)) ?_) | (refine AE1.rx rfl rfl rfl (fun _ _ h => h) (rx_load_fam (m := 1) Try.underlying22 rfl rfl rfl rfl rfl rfl (fun _ => rfl) rfl (by assumption) (by first | decide | omega)) ?_))
            refine AE1.rp rfl rfl rfl (fun _ _ h => h) (rp_move rfl rfl) ?_
            (first | (refine AE1.rp rfl rfl rfl (fun _ _ h => h) (rp_index_own (k := 0) Try.underlying22 inf62 rfl rfl rfl (by omega) (by omega)) ?_) | (refine AE1.rp rfl rfl rfl (fun _ _ h => h) (rp_index_map (k := 0) Try.underlying22 inf62 rfl rfl rfl (by omega) (by assumption)) ?_))
            (first | (refine AE1.rp rfl rfl rfl (fun _ _ h => h) (rp_field_ref Try.underlying62 rfl rfl rfl inf60 (by decide) rfl) ?_) | (refine AE1.rp rfl rfl rfl (fun _ _ h => h) (rp_field_ad Try.underlying62 rfl rfl rfl inf60 (by decide) rfl) ?_))
            (first | (refine AE1.rx rfl rfl rfl (fun _ _ h => h) (rx_load_ref Try.underlying60 rfl rfl rfl rfl rfl rfl (by first | decide | omega)) ?_) | (refine AE1.rx rfl rfl rfl (fun _ _ h => h) (rx_load_ad Try.underlying60 rfl rfl rfl rfl) ?_) | (refine AE1.rx rfl rfl rfl (fun _ _ h => h) (rx_load_fam (m := 0) Try.underlying60 rfl rfl rfl rfl rfl rfl (fun _ => rfl) rfl (by assumption) (by first | decide | omega)) ?_) | (refine AE1.rx rfl rfl rfl (fun _ _ h => h) (rx_load_fam (m := 1) Try.underlying60 rfl rfl rfl rfl rfl rfl (fun _ => rfl) rfl (by assumption) (by first | decide | omega)) ?_))
            refine AE1.rx rfl rfl rfl (fun _ _ h => h) (rx_loads_ref Try.underlying74 rfl inf74 rfl rfl rfl rfl rfl rfl (by first | decide | omega)) ?_
            refine AE1.go ?_
            refine AE2.sm rfl rfl (sm_sliceG (vs := [(0, _)]) (zs := [.d (.p (.int .i64 0)), .d (.p (.int .i64 0)), .d (.p (.int .i64 0)), .d (.p (.int .i64 0))]) 15 Try.underlying60 inf74 rfl rfl (by decide) (by decide) (by decide) rfl rfl rfl rfl (by first | rfl | (simp only [S.clean, S.put, S.newObj, List.all_cons, objs_clean_low, Nat.reduceLT]; simp [S.forget, V.has, V.hasL, junkIf, setL, V.cs, hasL_i, hasL_b, hasL_s, hasL_n, hasL_rep, hasL_flat, hasL_append, cells_hasL_low, has_ownV, hasL_frep, nb1, nb2, nb3, nb4, -List.map_set]; try omega)) (by first | rfl | (simp only [S.clean, S.put, S.newObj, List.all_cons, objs_clean_low, Nat.reduceLT]; simp [S.forget, V.has, V.hasL, junkIf, setL, V.cs, hasL_i, hasL_b, hasL_s, hasL_n, hasL_rep, hasL_flat, hasL_append, cells_hasL_low, has_ownV, hasL_frep, nb1, nb2, nb3, nb4, -List.map_set]; try omega)) rfl) (by first | decide | omega) ?_
            (first | (refine AE2.st rfl rfl (st_append_famX (lits := [_, _, _, _, _, _, _, _]) (x' := ⟨1000000001, firstL sts k ++ [⟨0, 0, x.fin, (k : Int) + 1⟩]⟩) (m := 1) (newrow := arD ⟨0, 0, x.fin, (k : Int) + 1⟩) (rb := 23) Try.underlying60 inf74 rfl (by decide) (by decide) rfl rfl rfl (by assumption) (fun _ => rfl) (by intro x l hl; simp [FS] at hl; first | (obtain ⟨_, _, rfl⟩ := hl; rfl) | (rcases hl with ⟨_, _, rfl⟩ <;> rfl)) rfl rfl rfl rfl rfl rfl rfl rfl (by simp [FS]) rfl rfl (by simp [V.hasL, V.has, nb1, nb2, nb3, nb4, setL, V.cs, hasL_i, hasL_b, hasL_s, hasL_n, hasL_rep, hasL_flat, hasL_append, -List.map_set]; try omega) (by first | assumption | (simp [FS]; omega))) ?_))
            try simp only [S.put, S.newObj, List.map_cons, List.map_nil, junkHi, V.low, V.lowL, low_ownV, Nat.reduceLT, decide_true, decide_false, Bool.and_true, Bool.true_and, if_true, if_false, Bool.false_eq_true, ite_true, ite_false, ↓reduceIte, List.cons_append, List.nil_append]
            (first | (refine AD3.rp1 rfl rfl rfl rfl (rp_index_own (k := 0) Try.underlying22 inf62 rfl rfl rfl (by omega) (by omega)) ?_) | (refine AD3.rp1 rfl rfl rfl rfl (rp_index_map (k := 0) Try.underlying22 inf62 rfl rfl rfl (by omega) (by assumption)) ?_))
            (first | (refine AD3.rp1 rfl rfl rfl rfl (rp_field_ref Try.underlying62 rfl rfl rfl inf60 (by decide) rfl) ?_) | (refine AD3.rp1 rfl rfl rfl rfl (rp_field_ad Try.underlying62 rfl rfl rfl inf60 (by decide) rfl) ?_))
            (first | (refine AD3.st rfl rfl rfl (st_store_map2 inf60 rfl rfl rfl rfl rfl rfl rfl rfl (by first | assumption | omega)) ?_) | (refine AD3.st rfl rfl rfl (st_store_fam (m := 0) inf60 rfl rfl rfl rfl rfl rfl (fun _ => rfl) rfl rfl (by first | assumption | (simp; omega))) ?_) | (refine AD3.st rfl rfl rfl (st_store_fam (m := 1) inf60 rfl rfl rfl rfl rfl rfl (fun _ => rfl) rfl rfl (by first | assumption | (simp; omega))) ?_) | (refine AD3.st rfl rfl rfl (st_store inf60 rfl rfl rfl rfl rfl rfl rfl (by first | decide | (simp; done)) rfl) ?_))
            refine AD3.nil ?_
            try simp only [thenS, S.put, S.newObj, setL, V.cs, List.length_cons, List.length_nil, List.take_succ_cons, List.take_zero, List.drop_succ_cons, List.drop_zero, List.drop_nil, List.nil_append, List.cons_append, List.append_nil, Nat.zero_add, Nat.reduceAdd, List.map_cons, List.map_nil, List.set_cons_zero, List.set_cons_succ]
            refine ⟨[], trivial, ?_⟩
            try simp only [S.put, tupOf, List.zip_cons_cons, List.zip_nil_left, List.drop_succ_cons, List.drop_zero, List.length_cons, List.length_nil, Nat.zero_add, Nat.reduceAdd]
            refine AL.nil ?_
            try simp only [thenS, S.put, List.nil_append, List.cons_append]
            refine ⟨_, ?_, rfl⟩
            rw [hsn]; exact (Less.of rfl (by repeat (first | exact trivial | refine ⟨⟨_, rfl, Wk.refl _⟩, ?_⟩ | refine ⟨⟨_, rfl, Wk.nil _ _⟩, ?_⟩ | refine ⟨⟨_, rfl, Wk.junk _⟩, ?_⟩)) (by repeat (first | exact trivial | refine ⟨rfl, ?_⟩ | exact LH.fam | refine LH.skip (by decide) ?_)) rfl)
        · rintro s' rfl
          refine AW.seq ?_
          refine AW.region ?_
          (first | (refine AL.rp rfl rfl (rp_field_ref Try.underlying62 rfl rfl rfl inf60 (by decide) rfl) ?_) | (refine AL.rp rfl rfl (rp_field_ad Try.underlying62 rfl rfl rfl inf60 (by decide) rfl) ?_))
          (first | (refine AL.rd rfl rfl (rd_load_ref Try.underlying60 rfl rfl rfl rfl rfl rfl) ?_) | (refine AL.rd rfl rfl (rd_load_ad Try.underlying60 rfl rfl rfl rfl) ?_) | (refine AL.rd rfl rfl (rd_load_map Try.underlying60 rfl rfl rfl rfl rfl rfl (by assumption)) ?_) | (refine AL.rd rfl rfl (rd_load_fam (m := 0) Try.underlying60 rfl rfl rfl rfl rfl rfl (fun _ => rfl) rfl (by assumption)) ?_) | (refine AL.rd rfl rfl (rd_load_fam (m := 1) Try.underlying60 rfl rfl rfl rfl rfl rfl (fun _ => rfl) rfl (by assumption)) ?_) | (refine AL.rd rfl rfl (rd_load_fpre (m := 1) Try.underlying60 rfl rfl rfl rfl rfl rfl (fun _ => rfl) rfl (by assumption) rfl) ?_))
          (first | (refine AL.rp rfl rfl (rp_len_map Try.underlying60 rfl rfl (by assumption)) ?_) | (refine AL.rp rfl rfl (rp_len_own Try.underlying60 rfl rfl) ?_) | (refine AL.rp rfl rfl (rp_len_sl Try.underlying60 rfl rfl) ?_) | (refine AL.rp rfl rfl (rp_len_nil Try.underlying60 rfl rfl) ?_) | (refine AL.rp rfl rfl (rp_len_str Try.underlying60 rfl rfl) ?_))
          refine AL.rp rfl rfl (rp_move rfl rfl) ?_
          refine AL.nil ?_
          try simp only [thenS, S.put, List.nil_append, List.cons_append]
          refine AW.block ?_
          refine AW.loop (fun s' => ∃ i : Nat, i ≤ la ∧ s' = ⟨90, [(1, .ref 1 0), (2, .ref 2 0), (5, .ref 5 0), (7, .fn 56 [.ref 5 0]), (8, .i k), (39, .d (stsD sts)), (40, .i n), (41, .i k), (57, .d (arsD x.arcs)), (58, .i la), (59, .i i)], [(1, ⟨24, [.i st, .d (stsD sts)], false, 0⟩), (2, ⟨24, [.i 0, .nil], false, 0⟩), (5, ⟨24, [.i 0, .own 23 2 (n + 1) false], false, 0⟩), (23, ⟨62, FS.cells 1000 (revL (firstL sts (k + 1)) (fun _ => 1000000001) (fun p => intoL sts p k ++ arcsTo p k (x.arcs.take i)) n), false, 2⟩)] ++ FS.objs 1000 (revL (firstL sts (k + 1)) (fun _ => 1000000001) (fun p => intoL sts p k ++ arcsTo p k (x.arcs.take i)) n), []⟩) (fun s' => la - s'.nat 59) ⟨_, ?_, 0, by omega, rfl⟩ ?_
          · have e : (revL (firstL sts (k + 1)) (fun _ => 1000000001) (fun p => intoL sts p k ++ arcsTo p k (x.arcs.take 0)) n) = (revL (firstL sts (k + 1)) (fun _ => 1000000001) (fun p => intoL sts p k) n) := revL_congr fun q _ => ⟨rfl, by simp [arcsTo]⟩
            rw [e]
            exact (Less.of rfl (by repeat (first | exact trivial | refine ⟨⟨_, rfl, Wk.refl _⟩, ?_⟩ | refine ⟨⟨_, rfl, Wk.nil _ _⟩, ?_⟩ | refine ⟨⟨_, rfl, Wk.junk _⟩, ?_⟩)) (by repeat (first | exact trivial | refine ⟨rfl, ?_⟩ | exact LH.fam | refine LH.skip (by decide) ?_)) rfl)
          rintro s' ⟨i, hi, rfl⟩
          by_cases hil : i < la
          · obtain ⟨y, hy⟩ := get_lt hla hil
            have hyt := (hz x (List.mem_of_getElem? hx)).2 y (List.mem_of_getElem? hy)
            have hsn2 := fun p => arcsTo_snoc p k hy
            obtain ⟨yi, yo, yw, yt⟩ := y
            simp only [arOk, decide_eq_true_eq] at hyt
            obtain ⟨p, rfl⟩ : ∃ p : Nat, yt = p := ⟨yt.toNat, by omega⟩
            have hpn : p < n := by omega
            have hp0 : (revL (firstL sts (k + 1)) (fun _ => 1000000001) (fun p => intoL sts p k ++ arcsTo p k (x.arcs.take i)) n)[p + 1]? = some ⟨1000000001, intoL sts p k ++ arcsTo p k (x.arcs.take i)⟩ := revL_get hpn
            have hlenp : (intoL sts p k ++ arcsTo p k (x.arcs.take i)).length ≤ 400 * k + la := by
              have h1 := arcsTo_len p k (x.arcs.take i)
              have h2 := intoL_len hal4 p k
              rw [List.length_append]
              rw [List.length_take] at h1
              omega
            obtain ⟨Gp, hGp⟩ : ∃ A, intoL sts p k ++ arcsTo p k (x.arcs.take i) = A := ⟨_, rfl⟩
            rw [hGp] at hp0 hlenp
            have hpl := (List.getElem?_eq_some_iff.1 hp0).1
            have hset : ((revL (firstL sts (k + 1)) (fun _ => 1000000001) (fun p => intoL sts p k ++ arcsTo p k (x.arcs.take i)) n).set (p + 1) ⟨1000000001, Gp ++ [⟨yi, yo, yw, (k : Int) + 1⟩]⟩)[p + 1]? = some ⟨1000000001, Gp ++ [⟨yi, yo, yw, (k : Int) + 1⟩]⟩ := by rw [List.getElem?_set_self hpl]
            have hlen0 : (FS.it ⟨1000000001, Gp⟩).length ≤ 1000000 := by simp [FS]; omega
            have hnext : (revL (firstL sts (k + 1)) (fun _ => 1000000001) (fun p => intoL sts p k ++ arcsTo p k (x.arcs.take i)) n).set (p + 1) ⟨1000000001, Gp ++ [⟨yi, yo, yw, (k : Int) + 1⟩]⟩ = (revL (firstL sts (k + 1)) (fun _ => 1000000001) (fun p => intoL sts p k ++ arcsTo p k (x.arcs.take (i + 1))) n) := by
              refine revL_set hpn _ ?_ fun q _ hq => ⟨rfl, ?_⟩
              · try simp only
                rw [hsn2 p, if_pos rfl, ← List.append_assoc, hGp]
                rfl
              · try simp only
                rw [hsn2 q, if_neg (by simp only; omega), List.append_nil]
            refine AW.seq ?_
            refine AW.region ?_
            (first | (refine AL.rp rfl rfl (rp_lssT rfl rfl rfl (by first | assumption | omega)) ?_) | (refine AL.rp rfl rfl (rp_lssF rfl rfl rfl (by first | assumption | omega)) ?_) | (refine AL.rp rfl rfl (rp_lss rfl rfl rfl) ?_))
            refine AL.nil ?_
            try simp only [thenS, S.put, List.nil_append, List.cons_append]
            refine AW.seq ?_
            refine AW.condT rfl ?_
            refine AW.skip ?_
            try simp only [thenS, List.nil_append, List.cons_append]
            refine AW.seq ?_
            refine AW.block ?_
            refine AW.seq ?_
            refine AW.region ?_
            (first | (refine AL.rp rfl rfl (rp_index_map Try.underlying60 inf74 rfl rfl rfl rfl (by assumption)) ?_) | (refine AL.rp rfl rfl (rp_index_own Try.underlying60 inf74 rfl rfl rfl rfl (by first | assumption | omega)) ?_) | (refine AL.rp rfl rfl (rd_index_sl Try.underlying60 inf74 rfl rfl rfl rfl (by assumption)) ?_) | (refine AL.rp rfl rfl (rp_index_own Try.underlying60 inf74 rfl rfl rfl (by omega) (by omega)) ?_))
            (first | (refine AL.rd rfl rfl (rd_loads_ref Try.underlying74 rfl inf74 rfl rfl rfl rfl rfl rfl) ?_) | (refine AL.rd rfl rfl (rd_loads_ad Try.underlying74 rfl inf74 rfl rfl rfl rfl) ?_))
            refine AL.sm rfl (sm_alloc (l := [.d (.p (.int .i64 0)), .d (.p (.int .i64 0)), .d (.p (.int .i64 0)), .d (.p (.int .i64 0))]) 11 inf74 rfl (by first | rfl | (simp only [S.clean, S.put, S.newObj, List.all_cons, objs_clean_low, Nat.reduceLT]; simp [S.forget, V.has, V.hasL, junkIf, setL, V.cs, hasL_i, hasL_b, hasL_s, hasL_n, hasL_rep, hasL_flat, hasL_append, cells_hasL_low, has_ownV, hasL_frep, nb1, nb2, nb3, nb4, -List.map_set]; try omega)) rfl rfl) ?_
            refine AL.st rfl (st_store_any inf74 rfl rfl rfl rfl rfl rfl rfl rfl (by first | decide | (simp; omega)) rfl) ?_
            refine AL.nil ?_
            try simp only [thenS, S.put, S.newObj, setL, V.cs, List.length_cons, List.length_nil, List.take_succ_cons, List.take_zero, List.drop_succ_cons, List.drop_zero, List.drop_nil, List.nil_append, List.cons_append, List.append_nil, Nat.zero_add, Nat.reduceAdd, List.map_cons, List.map_nil, List.set_cons_zero, List.set_cons_succ]
            refine AW.seq ?_
            refine AW.region ?_
            (first | (refine AL.rp rfl rfl (rp_field_ref Try.underlying74 rfl rfl rfl inf3 (by decide) rfl) ?_) | (refine AL.rp rfl rfl (rp_field_ad Try.underlying74 rfl rfl rfl inf3 (by decide) rfl) ?_))
            (first | (refine AL.rd rfl rfl (rd_load_ref Try.underlying3 rfl rfl rfl rfl rfl rfl) ?_) | (refine AL.rd rfl rfl (rd_load_ad Try.underlying3 rfl rfl rfl rfl) ?_) | (refine AL.rd rfl rfl (rd_load_map Try.underlying3 rfl rfl rfl rfl rfl rfl (by assumption)) ?_) | (refine AL.rd rfl rfl (rd_load_fam (m := 0) Try.underlying3 rfl rfl rfl rfl rfl rfl (fun _ => rfl) rfl (by assumption)) ?_) | (refine AL.rd rfl rfl (rd_load_fam (m := 1) Try.underlying3 rfl rfl rfl rfl rfl rfl (fun _ => rfl) rfl (by assumption)) ?_) | (refine AL.rd rfl rfl (rd_load_fpre (m := 1) Try.underlying3 rfl rfl rfl rfl rfl rfl (fun _ => rfl) rfl (by assumption) rfl) ?_))
            refine AL.rp rfl rfl (rp_add rfl rfl rfl (by omega)) ?_
            refine AL.rp rfl rfl (rp_assign rfl rfl) ?_
            refine AL.nil ?_
            try simp only [thenS, S.put, List.nil_append, List.cons_append]
            refine AW.seq ?_
            refine AW.region ?_
            refine AL.rp rfl rfl (rp_move rfl rfl) ?_
            refine AL.rp rfl rfl (rp_add rfl rfl rfl (by omega)) ?_
            (first | (refine AL.rp rfl rfl (rp_field_ref Try.underlying74 rfl rfl rfl inf3 (by decide) rfl) ?_) | (refine AL.rp rfl rfl (rp_field_ad Try.underlying74 rfl rfl rfl inf3 (by decide) rfl) ?_))
            (first | (refine AL.st rfl (st_store_map2 inf3 rfl rfl rfl rfl rfl rfl rfl rfl (by first | assumption | omega)) ?_) | (refine AL.st rfl (st_store_fam (m := 0) inf3 rfl rfl rfl rfl rfl rfl (fun _ => rfl) rfl rfl (by first | assumption | (simp; omega))) ?_) | (refine AL.st rfl (st_store_fam (m := 1) inf3 rfl rfl rfl rfl rfl rfl (fun _ => rfl) rfl rfl (by first | assumption | (simp; omega))) ?_) | (refine AL.st rfl (st_store inf3 rfl rfl rfl rfl rfl rfl rfl (by first | decide | (simp; done)) rfl) ?_))
            refine AL.nil ?_
            try simp only [thenS, S.put, S.newObj, setL, V.cs, List.length_cons, List.length_nil, List.take_succ_cons, List.take_zero, List.drop_succ_cons, List.drop_zero, List.drop_nil, List.nil_append, List.cons_append, List.append_nil, Nat.zero_add, Nat.reduceAdd, List.map_cons, List.map_nil, List.set_cons_zero, List.set_cons_succ]
            refine AW.region ?_
            refine AL.rp rfl rfl (rp_move rfl rfl) ?_
            refine AL.rp rfl rfl (rp_move rfl rfl) ?_
            (first | (refine AL.rd rfl rfl (rd_loads_ref Try.underlying74 rfl inf74 rfl rfl rfl rfl rfl rfl) ?_) | (refine AL.rd rfl rfl (rd_loads_ad Try.underlying74 rfl inf74 rfl rfl rfl rfl) ?_))
            refine AL.inline [1, 2, 5, 7, 8, 39, 40, 41, 57, 58, 59] (ts := [_, _, _, _, _, _, _, _, _, _, _]) (ars := [_, _]) rfl rfl ⟨Try.func56, rfl, rfl, rfl, rfl⟩ rfl rfl rfl (by simp) rfl fun kx => ?_
            try simp only [thenS, S.put, enum, List.nil_append, List.cons_append, List.append_nil, Nat.zero_add, Nat.reduceAdd]
            refine AW.seq ?_
            refine AW.region ?_
            refine AL.sm rfl (sm_box 4 rfl rfl rfl (by first | rfl | (simp only [S.clean, S.put, S.newObj, List.all_cons, objs_clean_low, Nat.reduceLT]; simp [S.forget, V.has, V.hasL, junkIf, setL, V.cs, hasL_i, hasL_b, hasL_s, hasL_n, hasL_rep, hasL_flat, hasL_append, cells_hasL_low, has_ownV, hasL_frep, nb1, nb2, nb3, nb4, -List.map_set]; try omega)) rfl) ?_
            refine AL.nil ?_
            try simp only [thenS, S.put, S.newObj, setL, V.cs, List.length_cons, List.length_nil, List.take_succ_cons, List.take_zero, List.drop_succ_cons, List.drop_zero, List.drop_nil, List.nil_append, List.cons_append, List.append_nil, Nat.zero_add, Nat.reduceAdd, List.map_cons, List.map_nil, List.set_cons_zero, List.set_cons_succ]
            refine AW.drawX (1000 + (p + 1)) [(0, true), (1, true), (2, true), (3, true), (4, true), (5, true), (6, true), (7, true), (8, true), (9, true), (10, false), (11, false), (12, false), (13, false), (14, false)] (fun i => !([12, 13, 14] : List Nat).contains i) 15 (by kernel_rfl) (by kernel_rfl) rfl (by kernel_rfl) ?_
            (first | (refine AE1.rp rfl rfl rfl (fun _ _ h => h) (rp_field_ref Try.underlying24 rfl rfl rfl inf22 (by decide) rfl) ?_) | (refine AE1.rp rfl rfl rfl (fun _ _ h => h) (rp_field_ad Try.underlying24 rfl rfl rfl inf22 (by decide) rfl) ?_))
            (first | (refine AE1.rx rfl rfl rfl (fun _ _ h => h) (rx_load_ref Try.underlying22 rfl rfl rfl rfl rfl rfl (by first | decide | omega)) ?_) | (refine AE1.rx rfl rfl rfl (fun _ _ h => h) (rx_load_ad Try.underlying22 rfl rfl rfl rfl) ?_) | (refine AE1.rx rfl rfl rfl (fun _ _ h => h) (rx_load_fam (m := 0) Try.underlying22 rfl rfl rfl rfl rfl rfl (fun _ => rfl) rfl (by assumption) (by first | decide | omega)) ?_) | (refine AE1.rx rfl rfl rfl (fun _ _ h => h) (rx_load_fam (m := 1) Try.underlying22 rfl rfl rfl rfl rfl rfl (fun _ => rfl) rfl (by assumption) (by first | decide | omega)) ?_))
            refine AE1.rp rfl rfl rfl (fun _ _ h => h) (rp_move rfl rfl) ?_
            (first | (refine AE1.rp rfl rfl rfl (fun _ _ h => h) (rp_field_ref Try.underlying24 rfl rfl rfl inf22 (by decide) rfl) ?_) | (refine AE1.rp rfl rfl rfl (fun _ _ h => h) (rp_field_ad Try.underlying24 rfl rfl rfl inf22 (by decide) rfl) ?_))
            (first | (refine AE1.rx rfl rfl rfl (fun _ _ h => h) (rx_load_ref Try.underlying22 rfl rfl rfl rfl rfl rfl (by first | decide | omega)) ?_) | (refine AE1.rx rfl rfl rfl (fun _ _ h => h) (rx_load_ad Try.underlying22 rfl rfl rfl rfl) ?_) | (refine AE1.rx rfl rfl rfl (fun _ _ h => h) (rx_load_fam (m := 0) Try.underlying22 rfl rfl rfl rfl rfl rfl (fun _ => rfl) rfl (by assumption) (by first | decide | omega)) ?_) | (refine AE1.rx rfl rfl rfl (fun _ _ h => h) (rx_load_fam (m := 1) Try.underlying22 rfl rfl rfl rfl rfl rfl (fun _ => rfl) rfl (by assumption) (by first | decide | omega)) ?_))
            refine AE1.rp rfl rfl rfl (fun _ _ h => h) (rp_move rfl rfl) ?_
            (first | (refine AE1.rp rfl rfl rfl (fun _ _ h => h) (rp_index_own (k := p + 1) Try.underlying22 inf62 rfl rfl rfl (by omega) (by omega)) ?_) | (refine AE1.rp rfl rfl rfl (fun _ _ h => h) (rp_index_map (k := p + 1) Try.underlying22 inf62 rfl rfl rfl (by omega) (by assumption)) ?_))
            (first | (refine AE1.rp rfl rfl rfl (fun _ _ h => h) (rp_field_ref Try.underlying62 rfl rfl rfl inf60 (by decide) rfl) ?_) | (refine AE1.rp rfl rfl rfl (fun _ _ h => h) (rp_field_ad Try.underlying62 rfl rfl rfl inf60 (by decide) rfl) ?_))
            (first | (refine AE1.rx rfl rfl rfl (fun _ _ h => h) (rx_load_ref Try.underlying60 rfl rfl rfl rfl rfl rfl (by first | decide | omega)) ?_) | (refine AE1.rx rfl rfl rfl (fun _ _ h => h) (rx_load_ad Try.underlying60 rfl rfl rfl rfl) ?_) | (refine AE1.rx rfl rfl rfl (fun _ _ h => h) (rx_load_fam (m := 0) Try.underlying60 rfl rfl rfl rfl rfl rfl (fun _ => rfl) rfl (by assumption) (by first | decide | omega)) ?_) | (refine AE1.rx rfl rfl rfl (fun _ _ h => h) (rx_load_fam (m := 1) Try.underlying60 rfl rfl rfl rfl rfl rfl (fun _ => rfl) rfl (by assumption) (by first | decide | omega)) ?_))
            refine AE1.rx rfl rfl rfl (fun _ _ h => h) (rx_loads_ref Try.underlying74 rfl inf74 rfl rfl rfl rfl rfl rfl (by first | decide | omega)) ?_
            refine AE1.go ?_
            refine AE2.sm rfl rfl (sm_sliceG (vs := [(0, _)]) (zs := [.d (.p (.int .i64 0)), .d (.p (.int .i64 0)), .d (.p (.int .i64 0)), .d (.p (.int .i64 0))]) 15 Try.underlying60 inf74 rfl rfl (by decide) (by decide) (by decide) rfl rfl rfl rfl (by first | rfl | (simp only [S.clean, S.put, S.newObj, List.all_cons, objs_clean_low, Nat.reduceLT]; simp [S.forget, V.has, V.hasL, junkIf, setL, V.cs, hasL_i, hasL_b, hasL_s, hasL_n, hasL_rep, hasL_flat, hasL_append, cells_hasL_low, has_ownV, hasL_frep, nb1, nb2, nb3, nb4, -List.map_set]; try omega)) (by first | rfl | (simp only [S.clean, S.put, S.newObj, List.all_cons, objs_clean_low, Nat.reduceLT]; simp [S.forget, V.has, V.hasL, junkIf, setL, V.cs, hasL_i, hasL_b, hasL_s, hasL_n, hasL_rep, hasL_flat, hasL_append, cells_hasL_low, has_ownV, hasL_frep, nb1, nb2, nb3, nb4, -List.map_set]; try omega)) rfl) (by first | decide | omega) ?_
            (first | (refine AE2.st rfl rfl (st_append_famX (lits := [_, _, _, _, _, _, _, _, _]) (x' := ⟨1000000001, Gp ++ [⟨yi, yo, yw, (k : Int) + 1⟩]⟩) (m := 1) (newrow := arD ⟨yi, yo, yw, (k : Int) + 1⟩) (rb := 23) Try.underlying60 inf74 rfl (by decide) (by decide) rfl rfl rfl (by assumption) (fun _ => rfl) (by intro x l hl; simp [FS] at hl; first | (obtain ⟨_, _, rfl⟩ := hl; rfl) | (rcases hl with ⟨_, _, rfl⟩ <;> rfl)) rfl rfl rfl rfl rfl rfl rfl rfl (by simp [FS]) rfl rfl (by simp [V.hasL, V.has, nb1, nb2, nb3, nb4, setL, V.cs, hasL_i, hasL_b, hasL_s, hasL_n, hasL_rep, hasL_flat, hasL_append, -List.map_set]; try omega) (by first | assumption | (simp [FS]; omega))) ?_))
            try simp only [S.put, S.newObj, List.map_cons, List.map_nil, junkHi, V.low, V.lowL, low_ownV, Nat.reduceLT, decide_true, decide_false, Bool.and_true, Bool.true_and, if_true, if_false, Bool.false_eq_true, ite_true, ite_false, ↓reduceIte, List.cons_append, List.nil_append]
            (first | (refine AD3.rp1 rfl rfl rfl rfl (rp_index_own (k := p + 1) Try.underlying22 inf62 rfl rfl rfl (by omega) (by omega)) ?_) | (refine AD3.rp1 rfl rfl rfl rfl (rp_index_map (k := p + 1) Try.underlying22 inf62 rfl rfl rfl (by omega) (by assumption)) ?_))
            (first | (refine AD3.rp1 rfl rfl rfl rfl (rp_field_ref Try.underlying62 rfl rfl rfl inf60 (by decide) rfl) ?_) | (refine AD3.rp1 rfl rfl rfl rfl (rp_field_ad Try.underlying62 rfl rfl rfl inf60 (by decide) rfl) ?_))
            (first | (refine AD3.st rfl rfl rfl (st_store_map2 inf60 rfl rfl rfl rfl rfl rfl rfl rfl (by first | assumption | omega)) ?_) | (refine AD3.st rfl rfl rfl (st_store_fam (m := 0) inf60 rfl rfl rfl rfl rfl rfl (fun _ => rfl) rfl rfl (by first | assumption | (simp; omega))) ?_) | (refine AD3.st rfl rfl rfl (st_store_fam (m := 1) inf60 rfl rfl rfl rfl rfl rfl (fun _ => rfl) rfl rfl (by first | assumption | (simp; omega))) ?_) | (refine AD3.st rfl rfl rfl (st_store inf60 rfl rfl rfl rfl rfl rfl rfl (by first | decide | (simp; done)) rfl) ?_))
            refine AD3.nil ?_
            try simp only [thenS, S.put, S.newObj, setL, V.cs, List.length_cons, List.length_nil, List.take_succ_cons, List.take_zero, List.drop_succ_cons, List.drop_zero, List.drop_nil, List.nil_append, List.cons_append, List.append_nil, Nat.zero_add, Nat.reduceAdd, List.map_cons, List.map_nil, List.set_cons_zero, List.set_cons_succ]
            refine ⟨[], trivial, ?_⟩
            try simp only [S.put, tupOf, List.zip_cons_cons, List.zip_nil_left, List.drop_succ_cons, List.drop_zero, List.length_cons, List.length_nil, Nat.zero_add, Nat.reduceAdd]
            refine AL.nil ?_
            try simp only [thenS, S.put, List.nil_append, List.cons_append]
            refine AW.region ?_
            refine AL.rp rfl rfl (rp_add rfl rfl rfl (by omega)) ?_
            refine AL.rp rfl rfl (rp_move rfl rfl) ?_
            refine AL.nil ?_
            try simp only [thenS, S.put, List.nil_append, List.cons_append]
            refine ⟨_, ?_, ⟨i + 1, by omega, rfl⟩, ?_⟩
            · rw [← hnext]; exact (Less.of rfl (by repeat (first | exact trivial | refine ⟨⟨_, rfl, Wk.refl _⟩, ?_⟩ | refine ⟨⟨_, rfl, Wk.nil _ _⟩, ?_⟩ | refine ⟨⟨_, rfl, Wk.junk _⟩, ?_⟩)) (by repeat (first | exact trivial | refine ⟨rfl, ?_⟩ | exact LH.fam | refine LH.skip (by decide) ?_)) rfl)
            · simp [S.nat, fnd]; omega
          · have e : (revL (firstL sts (k + 1)) (fun _ => 1000000001) (fun p => intoL sts p k ++ arcsTo p k (x.arcs.take i)) n) = (revL (firstL sts (k + 1)) (fun _ => 1000000001) (fun p => intoL sts p (k + 1)) n) := revL_congr fun q _ => ⟨rfl, by (try simp only); rw [List.take_of_length_le (by omega), intoL, stAt_of hx]⟩
            rw [e]
            refine AW.seq ?_
            refine AW.region ?_
            (first | (refine AL.rp rfl rfl (rp_lssT rfl rfl rfl (by first | assumption | omega)) ?_) | (refine AL.rp rfl rfl (rp_lssF rfl rfl rfl (by first | assumption | omega)) ?_) | (refine AL.rp rfl rfl (rp_lss rfl rfl rfl) ?_))
            refine AL.nil ?_
            try simp only [thenS, S.put, List.nil_append, List.cons_append]
            refine AW.seq ?_
            refine AW.condF rfl ?_
            refine AW.exit ?_
            try simp only [thenS, inBlockS, ↓reduceIte, Nat.reduceEqDiff, List.nil_append, List.cons_append]
            refine AW.region ?_
            refine AL.rp rfl rfl (rp_add rfl rfl rfl (by omega)) ?_
            refine AL.rp rfl rfl (rp_move rfl rfl) ?_
            refine AL.nil ?_
            try simp only [thenS, S.put, List.nil_append, List.cons_append]
            refine ⟨_, ?_, ⟨k + 1, by omega, rfl⟩, ?_⟩
            · exact (Less.of rfl (by repeat (first | exact trivial | refine ⟨⟨_, rfl, Wk.refl _⟩, ?_⟩ | refine ⟨⟨_, rfl, Wk.nil _ _⟩, ?_⟩ | refine ⟨⟨_, rfl, Wk.junk _⟩, ?_⟩)) (by repeat (first | exact trivial | refine ⟨rfl, ?_⟩ | exact LH.fam | refine LH.skip (by decide) ?_)) rfl)
            · simp [S.nat, fnd]; omega
      · obtain rfl : k = n := by omega
        obtain ⟨n, rfl⟩ : ∃ n, n = k := ⟨_, rfl⟩
        refine AW.seq ?_
        refine AW.region ?_
        (first | (refine AL.rp rfl rfl (rp_lssT rfl rfl rfl (by first | assumption | omega)) ?_) | (refine AL.rp rfl rfl (rp_lssF rfl rfl rfl (by first | assumption | omega)) ?_) | (refine AL.rp rfl rfl (rp_lss rfl rfl rfl) ?_))
        refine AL.nil ?_
        try simp only [thenS, S.put, List.nil_append, List.cons_append]
        refine AW.seq ?_
        refine AW.condF rfl ?_
        refine AW.exit ?_
        try simp only [thenS, inBlockS, ↓reduceIte, Nat.reduceEqDiff, List.nil_append, List.cons_append]
        refine AW.seqc (fun s' => s' = ⟨90, [(1, .ref 1 0), (2, .ref 2 0), (5, .ref 5 0)], [(1, ⟨24, [.i st, .d (stsD sts)], false, 0⟩), (2, ⟨24, [.i 0, .nil], false, 0⟩), (5, ⟨24, [.i 0, .own 23 2 (n + 1) false], false, 0⟩), (23, ⟨62, FS.cells 1000 (revL (firstL sts n) (fun p => if st = (p : Int) then 0 else 1000000001) (fun p => intoL sts p n) n), false, 2⟩)] ++ FS.objs 1000 (revL (firstL sts n) (fun p => if st = (p : Int) then 0 else 1000000001) (fun p => intoL sts p n) n), []⟩) ?_ ?_
        · skip
          by_cases hs0 : 0 ≤ st
          · obtain ⟨p, rfl⟩ : ∃ p : Nat, st = p := ⟨st.toNat, by omega⟩
            have hpn : p < n := by omega
            have hp0 : (revL (firstL sts n) (fun _ => 1000000001) (fun p => intoL sts p n) n)[p + 1]? = some ⟨1000000001, intoL sts p n⟩ := revL_get hpn
            have hnext : (revL (firstL sts n) (fun _ => 1000000001) (fun p => intoL sts p n) n).set (p + 1) ⟨0, intoL sts p n⟩ = (revL (firstL sts n) (fun q => if (p : Int) = (q : Int) then 0 else 1000000001) (fun p => intoL sts p n) n) := by
              refine revL_set hpn _ (by simp) fun q _ hq => ⟨?_, rfl⟩
              try simp only
              rw [if_neg (by omega)]
            refine AW.seq ?_
            refine AW.region ?_
            (first | (refine AL.rp rfl rfl (rp_field_ref Try.underlying24 rfl rfl rfl inf3 (by decide) rfl) ?_) | (refine AL.rp rfl rfl (rp_field_ad Try.underlying24 rfl rfl rfl inf3 (by decide) rfl) ?_))
            (first | (refine AL.rd rfl rfl (rd_load_ref Try.underlying3 rfl rfl rfl rfl rfl rfl) ?_) | (refine AL.rd rfl rfl (rd_load_ad Try.underlying3 rfl rfl rfl rfl) ?_) | (refine AL.rd rfl rfl (rd_load_map Try.underlying3 rfl rfl rfl rfl rfl rfl (by assumption)) ?_) | (refine AL.rd rfl rfl (rd_load_fam (m := 0) Try.underlying3 rfl rfl rfl rfl rfl rfl (fun _ => rfl) rfl (by assumption)) ?_) | (refine AL.rd rfl rfl (rd_load_fam (m := 1) Try.underlying3 rfl rfl rfl rfl rfl rfl (fun _ => rfl) rfl (by assumption)) ?_) | (refine AL.rd rfl rfl (rd_load_fpre (m := 1) Try.underlying3 rfl rfl rfl rfl rfl rfl (fun _ => rfl) rfl (by assumption) rfl) ?_))
            (first | (refine AL.rp rfl rfl (rp_geqT rfl rfl rfl (by first | assumption | omega)) ?_) | (refine AL.rp rfl rfl (rp_geqF rfl rfl rfl (by first | assumption | omega)) ?_) | (refine AL.rp rfl rfl (rp_geq rfl rfl rfl) ?_))
            refine AL.nil ?_
            try simp only [thenS, S.put, List.nil_append, List.cons_append]
            refine AW.condT rfl ?_
            refine AW.region ?_
            (first | (refine AL.rp rfl rfl (rp_field_ref Try.underlying24 rfl rfl rfl inf22 (by decide) rfl) ?_) | (refine AL.rp rfl rfl (rp_field_ad Try.underlying24 rfl rfl rfl inf22 (by decide) rfl) ?_))
            (first | (refine AL.rd rfl rfl (rd_load_ref Try.underlying22 rfl rfl rfl rfl rfl rfl) ?_) | (refine AL.rd rfl rfl (rd_load_ad Try.underlying22 rfl rfl rfl rfl) ?_) | (refine AL.rd rfl rfl (rd_load_map Try.underlying22 rfl rfl rfl rfl rfl rfl (by assumption)) ?_) | (refine AL.rd rfl rfl (rd_load_fam (m := 0) Try.underlying22 rfl rfl rfl rfl rfl rfl (fun _ => rfl) rfl (by assumption)) ?_) | (refine AL.rd rfl rfl (rd_load_fam (m := 1) Try.underlying22 rfl rfl rfl rfl rfl rfl (fun _ => rfl) rfl (by assumption)) ?_) | (refine AL.rd rfl rfl (rd_load_fpre (m := 1) Try.underlying22 rfl rfl rfl rfl rfl rfl (fun _ => rfl) rfl (by assumption) rfl) ?_))
            (first | (refine AL.rp rfl rfl (rp_field_ref Try.underlying24 rfl rfl rfl inf3 (by decide) rfl) ?_) | (refine AL.rp rfl rfl (rp_field_ad Try.underlying24 rfl rfl rfl inf3 (by decide) rfl) ?_))
            (first | (refine AL.rd rfl rfl (rd_load_ref Try.underlying3 rfl rfl rfl rfl rfl rfl) ?_) | (refine AL.rd rfl rfl (rd_load_ad Try.underlying3 rfl rfl rfl rfl) ?_) | (refine AL.rd rfl rfl (rd_load_map Try.underlying3 rfl rfl rfl rfl rfl rfl (by assumption)) ?_) | (refine AL.rd rfl rfl (rd_load_fam (m := 0) Try.underlying3 rfl rfl rfl rfl rfl rfl (fun _ => rfl) rfl (by assumption)) ?_) | (refine AL.rd rfl rfl (rd_load_fam (m := 1) Try.underlying3 rfl rfl rfl rfl rfl rfl (fun _ => rfl) rfl (by assumption)) ?_) | (refine AL.rd rfl rfl (rd_load_fpre (m := 1) Try.underlying3 rfl rfl rfl rfl rfl rfl (fun _ => rfl) rfl (by assumption) rfl) ?_))
            refine AL.rp rfl rfl (rp_add rfl rfl rfl (by omega)) ?_
            (first | (refine AL.rp rfl rfl (rp_index_own (k := p + 1) Try.underlying22 inf62 rfl rfl rfl (by omega) (by omega)) ?_) | (refine AL.rp rfl rfl (rp_index_map (k := p + 1) Try.underlying22 inf62 rfl rfl rfl (by omega) (by assumption)) ?_))
            (first | (refine AL.rp rfl rfl (rp_field_ref Try.underlying62 rfl rfl rfl inf3 (by decide) rfl) ?_) | (refine AL.rp rfl rfl (rp_field_ad Try.underlying62 rfl rfl rfl inf3 (by decide) rfl) ?_))
            (first | (refine AL.st rfl (st_store_fpre (lits := [_, _, _, _]) (m := 1) (⟨0, intoL sts p n⟩) inf3 rfl rfl rfl rfl rfl rfl rfl (fun _ => rfl) rfl rfl (by assumption) (by decide) rfl (by rfl) (by rfl)) ?_))
            try simp only [S.put, S.newObj, List.map_cons, List.map_nil, junkHi, V.low, V.lowL, low_ownV, Nat.reduceLT, decide_true, decide_false, Bool.and_true, Bool.true_and, if_true, if_false, Bool.false_eq_true, ite_true, ite_false, ↓reduceIte, List.cons_append, List.nil_append]
            refine AL.nil ?_
            try simp only [thenS, S.put, S.newObj, setL, V.cs, List.length_cons, List.length_nil, List.take_succ_cons, List.take_zero, List.drop_succ_cons, List.drop_zero, List.drop_nil, List.nil_append, List.cons_append, List.append_nil, Nat.zero_add, Nat.reduceAdd, List.map_cons, List.map_nil, List.set_cons_zero, List.set_cons_succ]
            refine ⟨_, ?_, rfl⟩
            rw [← hnext]; exact (Less.of rfl (by repeat (first | exact trivial | refine ⟨⟨_, rfl, Wk.refl _⟩, ?_⟩ | refine ⟨⟨_, rfl, Wk.nil _ _⟩, ?_⟩ | refine ⟨⟨_, rfl, Wk.junk _⟩, ?_⟩)) (by repeat (first | exact trivial | refine ⟨rfl, ?_⟩ | exact LH.fam | refine LH.skip (by decide) ?_)) rfl)
          · have e : (revL (firstL sts n) (fun p => if st = (p : Int) then 0 else 1000000001) (fun p => intoL sts p n) n) = (revL (firstL sts n) (fun _ => 1000000001) (fun p => intoL sts p n) n) := revL_congr fun q _ => ⟨by (try simp only); rw [if_neg (by omega)], rfl⟩
            refine AW.seq ?_
            refine AW.region ?_
            (first | (refine AL.rp rfl rfl (rp_field_ref Try.underlying24 rfl rfl rfl inf3 (by decide) rfl) ?_) | (refine AL.rp rfl rfl (rp_field_ad Try.underlying24 rfl rfl rfl inf3 (by decide) rfl) ?_))
            (first | (refine AL.rd rfl rfl (rd_load_ref Try.underlying3 rfl rfl rfl rfl rfl rfl) ?_) | (refine AL.rd rfl rfl (rd_load_ad Try.underlying3 rfl rfl rfl rfl) ?_) | (refine AL.rd rfl rfl (rd_load_map Try.underlying3 rfl rfl rfl rfl rfl rfl (by assumption)) ?_) | (refine AL.rd rfl rfl (rd_load_fam (m := 0) Try.underlying3 rfl rfl rfl rfl rfl rfl (fun _ => rfl) rfl (by assumption)) ?_) | (refine AL.rd rfl rfl (rd_load_fam (m := 1) Try.underlying3 rfl rfl rfl rfl rfl rfl (fun _ => rfl) rfl (by assumption)) ?_) | (refine AL.rd rfl rfl (rd_load_fpre (m := 1) Try.underlying3 rfl rfl rfl rfl rfl rfl (fun _ => rfl) rfl (by assumption) rfl) ?_))
            (first | (refine AL.rp rfl rfl (rp_geqT rfl rfl rfl (by first | assumption | omega)) ?_) | (refine AL.rp rfl rfl (rp_geqF rfl rfl rfl (by first | assumption | omega)) ?_) | (refine AL.rp rfl rfl (rp_geq rfl rfl rfl) ?_))
            refine AL.nil ?_
            try simp only [thenS, S.put, List.nil_append, List.cons_append]
            refine AW.condF rfl ?_
            refine AW.skip ?_
            try simp only [thenS, List.nil_append, List.cons_append]
            refine ⟨_, ?_, rfl⟩
            rw [e]; exact (Less.of rfl (by repeat (first | exact trivial | refine ⟨⟨_, rfl, Wk.refl _⟩, ?_⟩ | refine ⟨⟨_, rfl, Wk.nil _ _⟩, ?_⟩ | refine ⟨⟨_, rfl, Wk.junk _⟩, ?_⟩)) (by repeat (first | exact trivial | refine ⟨rfl, ?_⟩ | exact LH.fam | refine LH.skip (by decide) ?_)) rfl)
        · rintro s' rfl
          refine AW.famFreeze (F := FS) (m := 1) (base := 1000) (L := (revL (firstL sts n) (fun p => if st = (p : Int) then 0 else 1000000001) (fun p => intoL sts p n) n)) [_, _, _, _] 23 rfl rfl rfl rfl (fun _ => rfl) (by intro x l hl; simp [FS] at hl; obtain ⟨_, _, rfl⟩ := hl; rfl) ?_ rfl (by simp [V.hasL, V.has]; intro r hr; omega) rfl rfl ?_
          · intro s hs
            have : s.arcs.length ≤ 24000 := by
              simp only [revL, List.mem_cons, List.mem_map, List.mem_range] at hs
              rcases hs with rfl | ⟨p, hp, rfl⟩
              · have := firstL_len sts n
                simp only
                omega
              · have := intoL_len hal4 p n
                simp only
                omega
            simp [FS]; omega
          refine AW.freezeH 5 1 32 ((revL (firstL sts n) (fun p => if st = (p : Int) then 0 else 1000000001) (fun p => intoL sts p n) n).map FS.data) rfl rfl rfl (by decide) rfl rfl (by rw [List.length_map, revL_len]) (by omega) (rowsF (sz := 2) (fun _ => rfl) rfl) ?_
          refine AW.less (s' := ⟨90, [(1, .ref 1 0), (2, .ref 2 0), (5, .ref 5 0)], [(1, ⟨24, [.i st, .d (stsD sts)], false, 0⟩), (2, ⟨24, [.i 0, .nil], false, 0⟩), (5, ⟨24, [.i 0, .d (stsD (revL (firstL sts n) (fun p => if st = (p : Int) then 0 else 1000000001) (fun p => intoL sts p n) n))], false, 0⟩)], []⟩) (Less.of rfl (by repeat (first | exact trivial | refine ⟨⟨_, rfl, Wk.refl _⟩, ?_⟩ | refine ⟨⟨_, rfl, Wk.nil _ _⟩, ?_⟩ | refine ⟨⟨_, rfl, Wk.junk _⟩, ?_⟩)) (by repeat (first | exact trivial | refine ⟨rfl, ?_⟩ | exact LH.fam | refine LH.skip (by decide) ?_)) rfl) ?_
          by_cases hbig : 60 < (revL (firstL sts n) (fun p => if st = (p : Int) then 0 else 1000000001) (fun p => intoL sts p n) n).length ∨ 400 < arcN (revL (firstL sts n) (fun p => if st = (p : Int) then 0 else 1000000001) (fun p => intoL sts p n) n)
          · rw [if_pos hbig] at hE hcheck
            subst hE
            refine AW.seq ?_
            refine AW.seq ?_
            refine AW.region ?_
            (first | (refine AL.rd rfl rfl (rd_loads_ref Try.underlying24 rfl inf24 rfl rfl rfl rfl rfl rfl) ?_) | (refine AL.rd rfl rfl (rd_loads_ad Try.underlying24 rfl inf24 rfl rfl rfl rfl) ?_))
            refine AL.call (post := ?pc1) rfl (sm_call (args := [_]) ?hc1 ⟨Try.func55, rfl, rfl, rfl, rfl⟩ rfl rfl rfl rfl) ?_
            case hc1 => exact hcheck
            rintro _ rfl -
            try dsimp only
            (first | (refine AL.rp rfl rfl (rp_neqT rfl rfl rfl (by first | assumption | omega)) ?_) | (refine AL.rp rfl rfl (rp_neqF rfl rfl rfl (by first | assumption | omega)) ?_) | (refine AL.rp rfl rfl (rp_neq rfl rfl rfl) ?_))
            refine AL.nil ?_
            try simp only [thenS, S.put, S.newObj, setL, V.cs, List.length_cons, List.length_nil, List.take_succ_cons, List.take_zero, List.drop_succ_cons, List.drop_zero, List.drop_nil, List.nil_append, List.cons_append, List.append_nil, Nat.zero_add, Nat.reduceAdd, List.map_cons, List.map_nil, List.set_cons_zero, List.set_cons_succ]
            refine AW.condT rfl ?_
            refine AW.seq ?_
            refine AW.region ?_
            refine AL.rp rfl rfl (rp_build (vs := []) (zs := [.d (.p (.int .i64 0)), .d (.p (.slice none 0 0))]) pl24 inf24 rfl rfl rfl rfl) ?_
            refine AL.st rfl (st_store_any inf24 rfl rfl rfl rfl rfl rfl rfl rfl (by first | decide | (simp; omega)) rfl) ?_
            refine AL.rp rfl rfl (rp_assign rfl rfl) ?_
            refine AL.nil ?_
            try simp only [thenS, S.put, S.newObj, setL, V.cs, List.length_cons, List.length_nil, List.take_succ_cons, List.take_zero, List.drop_succ_cons, List.drop_zero, List.drop_nil, List.nil_append, List.cons_append, List.append_nil, Nat.zero_add, Nat.reduceAdd, List.map_cons, List.map_nil, List.set_cons_zero, List.set_cons_succ]
            refine AW.ret ?_
            exact ⟨[_, _], ⟨⟨2, 0, _, _, rfl, rfl, rfl, Try.underlying24, .inr ⟨rfl, _, _, _, _, inf24, rfl, rfl, rfl⟩⟩, rfl, trivial⟩, .inl ⟨by decide, rfl⟩, by simp [tupOf, V.pure, V.has, V.hasL]⟩
          · rw [if_neg hbig] at hE hcheck
            subst hE
            refine AW.seq ?_
            refine AW.seq ?_
            refine AW.region ?_
            (first | (refine AL.rd rfl rfl (rd_loads_ref Try.underlying24 rfl inf24 rfl rfl rfl rfl rfl rfl) ?_) | (refine AL.rd rfl rfl (rd_loads_ad Try.underlying24 rfl inf24 rfl rfl rfl rfl) ?_))
            refine AL.call (post := ?pc2) rfl (sm_call (args := [_]) ?hc2 ⟨Try.func55, rfl, rfl, rfl, rfl⟩ rfl rfl rfl rfl) ?_
            case hc2 => exact hcheck
            rintro _ rfl -
            try dsimp only
            (first | (refine AL.rp rfl rfl (rp_neqT rfl rfl rfl (by first | assumption | omega)) ?_) | (refine AL.rp rfl rfl (rp_neqF rfl rfl rfl (by first | assumption | omega)) ?_) | (refine AL.rp rfl rfl (rp_neq rfl rfl rfl) ?_))
            refine AL.nil ?_
            try simp only [thenS, S.put, S.newObj, setL, V.cs, List.length_cons, List.length_nil, List.take_succ_cons, List.take_zero, List.drop_succ_cons, List.drop_zero, List.drop_nil, List.nil_append, List.cons_append, List.append_nil, Nat.zero_add, Nat.reduceAdd, List.map_cons, List.map_nil, List.set_cons_zero, List.set_cons_succ]
            refine AW.condF rfl ?_
            refine AW.skip ?_
            try simp only [thenS, List.nil_append, List.cons_append]
            refine AW.seq ?_
            refine AW.region ?_
            (first | (refine AL.rd rfl rfl (rd_loads_ref Try.underlying24 rfl inf24 rfl rfl rfl rfl rfl rfl) ?_) | (refine AL.rd rfl rfl (rd_loads_ad Try.underlying24 rfl inf24 rfl rfl rfl rfl) ?_))
            refine AL.st rfl (st_store_any inf24 rfl rfl rfl rfl rfl rfl rfl rfl (by first | decide | (simp; omega)) rfl) ?_
            refine AL.rp rfl rfl (rp_assign rfl rfl) ?_
            refine AL.nil ?_
            try simp only [thenS, S.put, S.newObj, setL, V.cs, List.length_cons, List.length_nil, List.take_succ_cons, List.take_zero, List.drop_succ_cons, List.drop_zero, List.drop_nil, List.nil_append, List.cons_append, List.append_nil, Nat.zero_add, Nat.reduceAdd, List.map_cons, List.map_nil, List.set_cons_zero, List.set_cons_succ]
            refine AW.ret ?_
            exact ⟨[_, _], ⟨⟨2, 0, _, _, rfl, rfl, rfl, Try.underlying24, .inr ⟨rfl, _, _, _, _, inf24, rfl, rfl, rfl⟩⟩, rfl, trivial⟩, .inr ⟨rfl, by rw [hR rfl]; rfl⟩, by simp [tupOf, V.pure, V.has, V.hasL]⟩
  · have hE : revE m = machE m := by unfold revE; rw [if_pos h0]
    obtain ⟨e, he⟩ : ∃ e, machE m = e := ⟨_, rfl⟩
    rw [hE, he]
    rw [he] at h0
    obtain ⟨st, sts⟩ := m
    refine Fn.intro (n := 90) ⟨Try.func19, rfl, rfl, rfl, rfl⟩ (by simp [V.pure, V.has, V.hasL]) (by simp) fun w0 out => ?_
    refine AW.seq ?_
    refine AW.region ?_
    refine AL.sm rfl (sm_box 1 rfl rfl rfl (by first | rfl | (simp only [S.clean, S.put, S.newObj, List.all_cons, objs_clean_low, Nat.reduceLT]; simp [S.forget, V.has, V.hasL, junkIf, setL, V.cs, hasL_i, hasL_b, hasL_s, hasL_n, hasL_rep, hasL_flat, hasL_append, cells_hasL_low, has_ownV, hasL_frep, nb1, nb2, nb3, nb4, -List.map_set]; try omega)) rfl) ?_
    refine AL.sm rfl (sm_alloc (l := [.d (.p (.int .i64 0)), .d (.p (.slice none 0 0))]) 2 inf24 rfl (by first | rfl | (simp only [S.clean, S.put, S.newObj, List.all_cons, objs_clean_low, Nat.reduceLT]; simp [S.forget, V.has, V.hasL, junkIf, setL, V.cs, hasL_i, hasL_b, hasL_s, hasL_n, hasL_rep, hasL_flat, hasL_append, cells_hasL_low, has_ownV, hasL_frep, nb1, nb2, nb3, nb4, -List.map_set]; try omega)) rfl rfl) ?_
    refine AL.rp rfl rfl (rp_assign rfl rfl) ?_
    refine AL.nil ?_
    try simp only [thenS, S.put, S.newObj, setL, V.cs, List.length_cons, List.length_nil, List.take_succ_cons, List.take_zero, List.drop_succ_cons, List.drop_zero, List.drop_nil, List.nil_append, List.cons_append, List.append_nil, Nat.zero_add, Nat.reduceAdd, List.map_cons, List.map_nil, List.set_cons_zero, List.set_cons_succ, enum]
    refine AW.seq ?_
    refine AW.seq ?_
    refine AW.region ?_
    (first | (refine AL.rd rfl rfl (rd_loads_ref Try.underlying24 rfl inf24 rfl rfl rfl rfl rfl rfl) ?_) | (refine AL.rd rfl rfl (rd_loads_ad Try.underlying24 rfl inf24 rfl rfl rfl rfl) ?_))
    refine AL.call (post := ?pc3) rfl (sm_call (args := [_]) ?hc3 ⟨Try.func55, rfl, rfl, rfl, rfl⟩ rfl rfl rfl rfl) ?_
    case hc3 => exact Fn.eqi (am_Check ⟨st, sts⟩) he
    rintro _ rfl -
    try dsimp only
    refine AL.rp rfl rfl (rp_assign rfl rfl) ?_
    refine AL.nil ?_
    try simp only [thenS, S.put, S.newObj, setL, V.cs, List.length_cons, List.length_nil, List.take_succ_cons, List.take_zero, List.drop_succ_cons, List.drop_zero, List.drop_nil, List.nil_append, List.cons_append, List.append_nil, Nat.zero_add, Nat.reduceAdd, List.map_cons, List.map_nil, List.set_cons_zero, List.set_cons_succ]
    refine AW.seq ?_
    refine AW.region ?_
    refine AL.rp rfl rfl (rp_move rfl rfl) ?_
    (first | (refine AL.rp rfl rfl (rp_neqT rfl rfl rfl (by first | assumption | omega)) ?_) | (refine AL.rp rfl rfl (rp_neqF rfl rfl rfl (by first | assumption | omega)) ?_) | (refine AL.rp rfl rfl (rp_neq rfl rfl rfl) ?_))
    refine AL.nil ?_
    try simp only [thenS, S.put, List.nil_append, List.cons_append]
    refine AW.condT rfl ?_
    refine AW.seq ?_
    refine AW.region ?_
    refine AL.rp rfl rfl (rp_build (vs := []) (zs := [.d (.p (.int .i64 0)), .d (.p (.slice none 0 0))]) pl24 inf24 rfl rfl rfl rfl) ?_
    refine AL.rp rfl rfl (rp_move rfl rfl) ?_
    refine AL.st rfl (st_store_any inf24 rfl rfl rfl rfl rfl rfl rfl rfl (by first | decide | (simp; omega)) rfl) ?_
    refine AL.rp rfl rfl (rp_assign rfl rfl) ?_
    refine AL.nil ?_
    try simp only [thenS, S.put, S.newObj, setL, V.cs, List.length_cons, List.length_nil, List.take_succ_cons, List.take_zero, List.drop_succ_cons, List.drop_zero, List.drop_nil, List.nil_append, List.cons_append, List.append_nil, Nat.zero_add, Nat.reduceAdd, List.map_cons, List.map_nil, List.set_cons_zero, List.set_cons_succ]
    refine AW.ret ?_
    exact ⟨[_, _], ⟨⟨2, 0, _, _, rfl, rfl, rfl, Try.underlying24, .inr ⟨rfl, _, _, _, _, inf24, rfl, rfl, rfl⟩⟩, rfl, trivial⟩, .inl ⟨h0, rfl⟩, by simp [tupOf, V.pure, V.has, V.hasL]⟩
theorem am_Reverse (m : Mach) : Fn Try.prog 19 [mV m] (fun v => v = .tup [mV (revR m), .i (revE m)]) := (am_Reverse0 m).wkS (resP_wk fun h => by unfold revR; rw [if_neg h])
end Go.Proofs.Ytdpniifajmpmkaa
