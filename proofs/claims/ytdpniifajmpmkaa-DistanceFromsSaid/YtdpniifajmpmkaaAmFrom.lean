/- distance.From. -/
import Derived.Test.YtdpniifajmpmkaaAmCheck
import Derived.Test.YtdpniifajmpmkaaAmCosts
import Derived.Test.YtdpniifajmpmkaaAmX
namespace Go.Proofs.Ytdpniifajmpmkaa
open Go.RowKit
set_option linter.unusedSimpArgs false
set_option linter.unusedVariables false
set_option maxRecDepth 100000

def FE : Fam (List (Nat × Nat)) := ⟨94, 2, 16, fun _ => [], fun l => l.map fun e => [.p (.int .i64 (e.1 : Int)), .p (.int .i64 (e.2 : Int))]⟩
set_option maxHeartbeats 1000000 in
theorem am_From0 (m : Mach) : Fn Try.prog 33 [mV m] (resI (disE (frD m) m) (disL (frD m) m)) := by
  by_cases h0 : machE m = 0
  · obtain ⟨h60, h400, hst, hz⟩ := machE_zero h0
    have hres := fun v => dis_res (D := frD m) (v := v) h0
    obtain ⟨st, sts⟩ := m
    simp only at h60 h400 hst hz
    have hal4 : ∀ x ∈ sts, x.arcs.length ≤ 400 := fun x hx => Nat.le_trans (arcN_mem sts x hx) h400
    have hFr : frF ⟨st, sts⟩ = bl (fun q => if st = (q : Int) then 0 else 1000000001) sts.length := rfl
    have hEr : frE ⟨st, sts⟩ = bl (fun q => (stA sts q).map arcE) sts.length := rfl
    have hEl : ∀ l ∈ frE ⟨st, sts⟩, l.length ≤ 24000 ∧ ∀ p w, (p, w) ∈ l → p < sts.length ∧ w ≤ 1000000000 := by
      intro l hl
      obtain ⟨q, hq⟩ := List.getElem?_of_mem hl
      obtain ⟨hqn, rfl⟩ := bl_inv hq
      have hx : sts[q]? = some sts[q] := List.getElem?_eq_getElem hqn
      simp only
      rw [stA_of hx]
      refine ⟨by rw [List.length_map]; exact Nat.le_trans (hal4 _ (List.getElem_mem _)) (by omega), fun p w hpw => ?_⟩
      simp only [List.mem_map, arcE, Prod.mk.injEq] at hpw
      obtain ⟨a, ha, h1, h2⟩ := hpw
      have h3 := (hz _ (List.getElem_mem hqn)).2 a ha
      simp only [arOk, decide_eq_true_eq] at h3
      omega
    have hFx : ∀ x ∈ frF ⟨st, sts⟩, x ≤ 1000000001 := by
      intro x hx
      obtain ⟨q, hq⟩ := List.getElem?_of_mem hx
      obtain ⟨_, rfl⟩ := bl_inv hq
      simp only
      split <;> omega
    have hfar := (am_far (frF ⟨st, sts⟩) (frE ⟨st, sts⟩) sts.length (bl_len _ _) (bl_len _ _) h60 hFx hEl).mono (fun v => hres v)
    obtain ⟨n, hn⟩ : ∃ n, sts.length = n := ⟨_, rfl⟩
    rw [hn] at h60 hst hz hFr hEr hEl
    refine Fn.intro (n := 70) ⟨Try.func33, rfl, rfl, rfl, rfl⟩ (by simp [V.pure, V.has, V.hasL]) (by simp) fun w0 out => ?_
    refine AW.seq ?_
    refine AW.region ?_
    refine AL.sm rfl (sm_box 1 rfl rfl rfl (by first | rfl | (simp only [S.clean, S.put, S.newObj, List.all_cons, objs_clean_low, Nat.reduceLT]; simp [S.forget, V.has, V.hasL, junkIf, setL, V.cs, hasL_i, hasL_b, hasL_s, hasL_n, hasL_rep, hasL_flat, hasL_append, cells_hasL_low, has_ownV, hasL_frep, nb1, nb2, nb3, nb4, -List.map_set]; try omega)) rfl) ?_
    refine AL.rp rfl rfl (rp_assign rfl rfl) ?_
    refine AL.rp rfl rfl (rp_assign rfl rfl) ?_
    refine AL.nil ?_
    try simp only [thenS, S.put, S.newObj, setL, V.cs, List.length_cons, List.length_nil, List.take_succ_cons, List.take_zero, List.drop_succ_cons, List.drop_zero, List.drop_nil, List.nil_append, List.cons_append, List.append_nil, Nat.zero_add, Nat.reduceAdd, List.map_cons, List.map_nil, List.set_cons_zero, List.set_cons_succ, enum]
    refine AW.seq ?_
    refine AW.seq ?_
    refine AW.region ?_
    (first | (refine AL.rd rfl rfl (rd_loads_ref Try.underlying24 rfl inf24 rfl rfl rfl rfl rfl rfl) ?_) | (refine AL.rd rfl rfl (rd_loads_ad Try.underlying24 rfl inf24 rfl rfl rfl rfl) ?_))
    refine AL.call (post := ?pc0) rfl (sm_call (args := [_]) ?hc0 ⟨Try.func55, rfl, rfl, rfl, rfl⟩ rfl rfl rfl rfl) ?_
    case hc0 => exact Fn.eqi (am_Check ⟨st, sts⟩) h0
    rintro _ rfl -
    try dsimp only
    refine AL.rp rfl rfl (rp_assign rfl rfl) ?_
    refine AL.nil ?_
    try simp only [thenS, S.put, S.newObj, setL, V.cs, List.length_cons, List.length_nil, List.take_succ_cons, List.take_zero, List.drop_succ_cons, List.drop_zero, List.drop_nil, List.nil_append, List.cons_append, List.append_nil, Nat.zero_add, Nat.reduceAdd, List.map_cons, List.map_nil, List.set_cons_zero, List.set_cons_succ]
    refine AW.seq ?_
    refine AW.region ?_
    refine AL.rp rfl rfl (rp_move rfl rfl) ?_
    (first | (refine AL.rp rfl rfl (rp_neqT rfl rfl rfl (by first | assumption | omega)) ?_) | (refine AL.rp rfl rfl (rp_neqF rfl rfl rfl (by first | assumption | omega)) ?_) | (refine AL.rp rfl rfl (rp_neq rfl rfl rfl) ?_))
    refine AL.nil ?_
    try simp only [thenS, S.put, List.nil_append, List.cons_append]
    refine AW.condF rfl ?_
    refine AW.skip ?_
    try simp only [thenS, List.nil_append, List.cons_append]
    refine AW.seq ?_
    refine AW.region ?_
    (first | (refine AL.rp rfl rfl (rp_field_ref Try.underlying24 rfl rfl rfl inf22 (by decide) rfl) ?_) | (refine AL.rp rfl rfl (rp_field_ad Try.underlying24 rfl rfl rfl inf22 (by decide) rfl) ?_))
    (first | (refine AL.rd rfl rfl (rd_load_ref Try.underlying22 rfl rfl rfl rfl rfl rfl) ?_) | (refine AL.rd rfl rfl (rd_load_ad Try.underlying22 rfl rfl rfl rfl) ?_) | (refine AL.rd rfl rfl (rd_load_map Try.underlying22 rfl rfl rfl rfl rfl rfl (by assumption)) ?_) | (refine AL.rd rfl rfl (rd_load_fam (m := 0) Try.underlying22 rfl rfl rfl rfl rfl rfl (fun _ => rfl) rfl (by assumption)) ?_) | (refine AL.rd rfl rfl (rd_load_fam (m := 1) Try.underlying22 rfl rfl rfl rfl rfl rfl (fun _ => rfl) rfl (by assumption)) ?_) | (refine AL.rd rfl rfl (rd_load_fpre (m := 1) Try.underlying22 rfl rfl rfl rfl rfl rfl (fun _ => rfl) rfl (by assumption) rfl) ?_))
    (first | (refine AL.rp rfl rfl (rp_len_map Try.underlying22 rfl rfl (by assumption)) ?_) | (refine AL.rp rfl rfl (rp_len_own Try.underlying22 rfl rfl) ?_) | (refine AL.rp rfl rfl (rp_len_sl Try.underlying22 rfl rfl) ?_) | (refine AL.rp rfl rfl (rp_len_nil Try.underlying22 rfl rfl) ?_) | (refine AL.rp rfl rfl (rp_len_str Try.underlying22 rfl rfl) ?_))
    refine AL.sm rfl (sm_make_map 19 V.i (0) Try.underlying41 inf3 rfl rfl rfl rfl rfl (by omega) (by decide) (by first | rfl | (simp only [S.clean, S.put, S.newObj, List.all_cons, objs_clean_low, Nat.reduceLT]; simp [S.forget, V.has, V.hasL, junkIf, setL, V.cs, hasL_i, hasL_b, hasL_s, hasL_n, hasL_rep, hasL_flat, hasL_append, cells_hasL_low, has_ownV, hasL_frep, nb1, nb2, nb3, nb4, -List.map_set]; try omega)) rfl) ?_
    refine AL.rp rfl rfl (rp_assign rfl rfl) ?_
    refine AL.nil ?_
    try simp only [thenS, S.put, S.newObj, setL, V.cs, List.length_cons, List.length_nil, List.take_succ_cons, List.take_zero, List.drop_succ_cons, List.drop_zero, List.drop_nil, List.nil_append, List.cons_append, List.append_nil, Nat.zero_add, Nat.reduceAdd, List.map_cons, List.map_nil, List.set_cons_zero, List.set_cons_succ]
    refine AW.seq ?_
    refine AW.region ?_
    (first | (refine AL.rp rfl rfl (rp_field_ref Try.underlying24 rfl rfl rfl inf22 (by decide) rfl) ?_) | (refine AL.rp rfl rfl (rp_field_ad Try.underlying24 rfl rfl rfl inf22 (by decide) rfl) ?_))
    (first | (refine AL.rd rfl rfl (rd_load_ref Try.underlying22 rfl rfl rfl rfl rfl rfl) ?_) | (refine AL.rd rfl rfl (rd_load_ad Try.underlying22 rfl rfl rfl rfl) ?_) | (refine AL.rd rfl rfl (rd_load_map Try.underlying22 rfl rfl rfl rfl rfl rfl (by assumption)) ?_) | (refine AL.rd rfl rfl (rd_load_fam (m := 0) Try.underlying22 rfl rfl rfl rfl rfl rfl (fun _ => rfl) rfl (by assumption)) ?_) | (refine AL.rd rfl rfl (rd_load_fam (m := 1) Try.underlying22 rfl rfl rfl rfl rfl rfl (fun _ => rfl) rfl (by assumption)) ?_) | (refine AL.rd rfl rfl (rd_load_fpre (m := 1) Try.underlying22 rfl rfl rfl rfl rfl rfl (fun _ => rfl) rfl (by assumption) rfl) ?_))
    (first | (refine AL.rp rfl rfl (rp_len_map Try.underlying22 rfl rfl (by assumption)) ?_) | (refine AL.rp rfl rfl (rp_len_own Try.underlying22 rfl rfl) ?_) | (refine AL.rp rfl rfl (rp_len_sl Try.underlying22 rfl rfl) ?_) | (refine AL.rp rfl rfl (rp_len_nil Try.underlying22 rfl rfl) ?_) | (refine AL.rp rfl rfl (rp_len_str Try.underlying22 rfl rfl) ?_))
    refine AL.sm rfl (sm_make1 23 Try.underlying91 inf92 rfl rfl rfl rfl (by omega) (by decide) (by first | rfl | (simp only [S.clean, S.put, S.newObj, List.all_cons, objs_clean_low, Nat.reduceLT]; simp [S.forget, V.has, V.hasL, junkIf, setL, V.cs, hasL_i, hasL_b, hasL_s, hasL_n, hasL_rep, hasL_flat, hasL_append, cells_hasL_low, has_ownV, hasL_frep, nb1, nb2, nb3, nb4, -List.map_set]; try omega)) rfl) ?_
    refine AL.rp rfl rfl (rp_assign rfl rfl) ?_
    refine AL.nil ?_
    try simp only [thenS, S.put, S.newObj, setL, V.cs, List.length_cons, List.length_nil, List.take_succ_cons, List.take_zero, List.drop_succ_cons, List.drop_zero, List.drop_nil, List.nil_append, List.cons_append, List.append_nil, Nat.zero_add, Nat.reduceAdd, List.map_cons, List.map_nil, List.set_cons_zero, List.set_cons_succ]
    refine AW.seq ?_
    refine AW.seq ?_
    refine AW.famAdopt FE 1000 23 (List.replicate n []) rfl rfl (by rw [flatMap_rep]; simp [FE]) (by intro x hx; rw [List.eq_of_mem_replicate hx]; rfl) rfl ?_
    have hz0 : (List.replicate n (0 : Int)).map V.i = (bl (fun q => if q < 0 then 1000000001 else 0) n).map V.n := by rw [show (bl (fun q => if q < 0 then 1000000001 else 0) n) = List.replicate n 0 by rw [bl_rep]; exact bl_congr fun q _ => by simp]; simp
    have hb0 : (List.replicate n ([] : List (Nat × Nat))) = (bl (fun q => if q < 0 then (stA sts q).map arcE else []) n) := by rw [bl_rep]; exact bl_congr fun q _ => by simp
    rw [hz0, hb0]
    refine AW.region ?_
    (first | (refine AL.rp rfl rfl (rp_field_ref Try.underlying24 rfl rfl rfl inf22 (by decide) rfl) ?_) | (refine AL.rp rfl rfl (rp_field_ad Try.underlying24 rfl rfl rfl inf22 (by decide) rfl) ?_))
    (first | (refine AL.rd rfl rfl (rd_load_ref Try.underlying22 rfl rfl rfl rfl rfl rfl) ?_) | (refine AL.rd rfl rfl (rd_load_ad Try.underlying22 rfl rfl rfl rfl) ?_) | (refine AL.rd rfl rfl (rd_load_map Try.underlying22 rfl rfl rfl rfl rfl rfl (by assumption)) ?_) | (refine AL.rd rfl rfl (rd_load_fam (m := 0) Try.underlying22 rfl rfl rfl rfl rfl rfl (fun _ => rfl) rfl (by assumption)) ?_) | (refine AL.rd rfl rfl (rd_load_fam (m := 1) Try.underlying22 rfl rfl rfl rfl rfl rfl (fun _ => rfl) rfl (by assumption)) ?_) | (refine AL.rd rfl rfl (rd_load_fpre (m := 1) Try.underlying22 rfl rfl rfl rfl rfl rfl (fun _ => rfl) rfl (by assumption) rfl) ?_))
    (first | (refine AL.rp rfl rfl (rp_len_map Try.underlying22 rfl rfl (by assumption)) ?_) | (refine AL.rp rfl rfl (rp_len_own Try.underlying22 rfl rfl) ?_) | (refine AL.rp rfl rfl (rp_len_sl Try.underlying22 rfl rfl) ?_) | (refine AL.rp rfl rfl (rp_len_nil Try.underlying22 rfl rfl) ?_) | (refine AL.rp rfl rfl (rp_len_str Try.underlying22 rfl rfl) ?_))
    refine AL.rp rfl rfl (rp_move rfl rfl) ?_
    refine AL.nil ?_
    try simp only [thenS, S.put, List.nil_append, List.cons_append]
    refine AW.block ?_
    refine AW.loop (fun s' => ∃ k : Nat, k ≤ n ∧ s' = ⟨70, [(1, .ref 1 0), (5, .own 19 1 n false), (6, .own 23 1 n false), (25, .d (stsD sts)), (26, .i n), (27, .i k)], [(1, ⟨24, [.i st, .d (stsD sts)], false, 0⟩), (19, ⟨3, (bl (fun q => if q < k then 1000000001 else 0) n).map V.n, false, 1⟩), (23, ⟨92, FE.cells 1000 (bl (fun q => if q < k then (stA sts q).map arcE else []) n), false, 1⟩)] ++ FE.objs 1000 (bl (fun q => if q < k then (stA sts q).map arcE else []) n), []⟩) (fun s' => n - s'.nat 27) ⟨_, ?_, 0, by omega, rfl⟩ ?_
    · exact (Less.of rfl (by repeat (first | exact trivial | refine ⟨⟨_, rfl, Wk.refl _⟩, ?_⟩ | refine ⟨⟨_, rfl, Wk.nil _ _⟩, ?_⟩ | refine ⟨⟨_, rfl, Wk.junk _⟩, ?_⟩)) (by repeat (first | exact trivial | refine ⟨rfl, ?_⟩ | exact LH.fam | refine LH.skip (by decide) ?_)) rfl)
    rintro s' ⟨k, hk, rfl⟩
    by_cases hlt : k < n
    · obtain ⟨x, hx⟩ := get_lt hn hlt
      obtain ⟨la, hla⟩ : ∃ n, x.arcs.length = n := ⟨_, rfl⟩
      have hla' := hal4 x (List.mem_of_getElem? hx)
      rw [hla] at hla'
      have hkC : k < (bl (fun q => if q < k then 1000000001 else 0) n).length := by rw [bl_len]; exact hlt
      have hCn : (bl (fun q => if q < k then 1000000001 else 0) n).set k 1000000001 = (bl (fun q => if q < (k + 1) then 1000000001 else 0) n) := bl_set hlt (by simp) fun q _ hq => by
        by_cases e : q < k
        · rw [if_pos e, if_pos (by omega)]
        · rw [if_neg e, if_neg (by omega)]
      refine AW.seq ?_
      refine AW.region ?_
      (first | (refine AL.rp rfl rfl (rp_lssT rfl rfl rfl (by first | assumption | omega)) ?_) | (refine AL.rp rfl rfl (rp_lssF rfl rfl rfl (by first | assumption | omega)) ?_) | (refine AL.rp rfl rfl (rp_lss rfl rfl rfl) ?_))
      refine AL.nil ?_
      try simp only [thenS, S.put, List.nil_append, List.cons_append]
      refine AW.seq ?_
      refine AW.condT rfl ?_
      refine AW.skip ?_
      try simp only [thenS, List.nil_append, List.cons_append]
      refine AW.seq ?_
      refine AW.block ?_
      refine AW.seq ?_
      refine AW.region ?_
      refine AL.rp rfl rfl (rp_move rfl rfl) ?_
      (first | (refine AL.rp rfl rfl (rp_index_map Try.underlying22 inf62 rfl rfl rfl rfl (by assumption)) ?_) | (refine AL.rp rfl rfl (rp_index_own Try.underlying22 inf62 rfl rfl rfl rfl (by first | assumption | omega)) ?_) | (refine AL.rp rfl rfl (rd_index_sl Try.underlying22 inf62 rfl rfl rfl rfl (by assumption)) ?_) | (refine AL.rp rfl rfl (rp_index_own Try.underlying22 inf62 rfl rfl rfl (by omega) (by omega)) ?_))
      (first | (refine AL.rd rfl rfl (rd_loads_ref Try.underlying62 rfl inf62 rfl rfl rfl rfl rfl rfl) ?_) | (refine AL.rd rfl rfl (rd_loads_ad Try.underlying62 rfl inf62 rfl rfl rfl rfl) ?_))
      refine AL.sm rfl (sm_alloc (l := [.d (.p (.int .i64 0)), .d (.p (.slice none 0 0))]) 8 inf62 rfl (by first | rfl | (simp only [S.clean, S.put, S.newObj, List.all_cons, objs_clean_low, Nat.reduceLT]; simp [S.forget, V.has, V.hasL, junkIf, setL, V.cs, hasL_i, hasL_b, hasL_s, hasL_n, hasL_rep, hasL_flat, hasL_append, cells_hasL_low, has_ownV, hasL_frep, nb1, nb2, nb3, nb4, -List.map_set]; try omega)) rfl rfl) ?_
      refine AL.rp rfl rfl (rp_assign rfl rfl) ?_
      refine AL.st rfl (st_store_any inf62 rfl rfl rfl rfl rfl rfl rfl rfl (by first | decide | (simp; omega)) rfl) ?_
      refine AL.nil ?_
      try simp only [thenS, S.put, S.newObj, setL, V.cs, List.length_cons, List.length_nil, List.take_succ_cons, List.take_zero, List.drop_succ_cons, List.drop_zero, List.drop_nil, List.nil_append, List.cons_append, List.append_nil, Nat.zero_add, Nat.reduceAdd, List.map_cons, List.map_nil, List.set_cons_zero, List.set_cons_succ]
      refine AW.seq ?_
      refine AW.region ?_
      refine AL.rp rfl rfl (rp_move rfl rfl) ?_
      refine AL.rp rfl rfl (rp_move rfl rfl) ?_
      (first | (refine AL.rp rfl rfl (rp_index_map Try.underlying41 inf3 rfl rfl rfl rfl (by assumption)) ?_) | (refine AL.rp rfl rfl (rp_index_own Try.underlying41 inf3 rfl rfl rfl rfl (by first | assumption | omega)) ?_) | (refine AL.rp rfl rfl (rd_index_sl Try.underlying41 inf3 rfl rfl rfl rfl (by assumption)) ?_) | (refine AL.rp rfl rfl (rp_index_own Try.underlying41 inf3 rfl rfl rfl (by omega) (by omega)) ?_))
      refine AL.st rfl (st_store_map2 (v := 1000000001) inf3 rfl rfl rfl rfl rfl rfl rfl rfl (by first | assumption | omega)) ?_
      refine AL.nil ?_
      try simp only [thenS, S.put, S.newObj, setL, V.cs, List.length_cons, List.length_nil, List.take_succ_cons, List.take_zero, List.drop_succ_cons, List.drop_zero, List.drop_nil, List.nil_append, List.cons_append, List.append_nil, Nat.zero_add, Nat.reduceAdd, List.map_cons, List.map_nil, List.set_cons_zero, List.set_cons_succ]
      refine AW.seq ?_
      refine AW.region ?_
      (first | (refine AL.rp rfl rfl (rp_field_ref Try.underlying62 rfl rfl rfl inf60 (by decide) rfl) ?_) | (refine AL.rp rfl rfl (rp_field_ad Try.underlying62 rfl rfl rfl inf60 (by decide) rfl) ?_))
      (first | (refine AL.rd rfl rfl (rd_load_ref Try.underlying60 rfl rfl rfl rfl rfl rfl) ?_) | (refine AL.rd rfl rfl (rd_load_ad Try.underlying60 rfl rfl rfl rfl) ?_) | (refine AL.rd rfl rfl (rd_load_map Try.underlying60 rfl rfl rfl rfl rfl rfl (by assumption)) ?_) | (refine AL.rd rfl rfl (rd_load_fam (m := 0) Try.underlying60 rfl rfl rfl rfl rfl rfl (fun _ => rfl) rfl (by assumption)) ?_) | (refine AL.rd rfl rfl (rd_load_fam (m := 1) Try.underlying60 rfl rfl rfl rfl rfl rfl (fun _ => rfl) rfl (by assumption)) ?_) | (refine AL.rd rfl rfl (rd_load_fpre (m := 1) Try.underlying60 rfl rfl rfl rfl rfl rfl (fun _ => rfl) rfl (by assumption) rfl) ?_))
      (first | (refine AL.rp rfl rfl (rp_len_map Try.underlying60 rfl rfl (by assumption)) ?_) | (refine AL.rp rfl rfl (rp_len_own Try.underlying60 rfl rfl) ?_) | (refine AL.rp rfl rfl (rp_len_sl Try.underlying60 rfl rfl) ?_) | (refine AL.rp rfl rfl (rp_len_nil Try.underlying60 rfl rfl) ?_) | (refine AL.rp rfl rfl (rp_len_str Try.underlying60 rfl rfl) ?_))
      refine AL.rp rfl rfl (rp_move rfl rfl) ?_
      refine AL.nil ?_
      try simp only [thenS, S.put, List.nil_append, List.cons_append]
      refine AW.block ?_
      refine AW.loop (fun s' => ∃ i : Nat, i ≤ la ∧ s' = ⟨70, [(1, .ref 1 0), (5, .own 19 1 n false), (6, .own 23 1 n false), (7, .i k), (25, .d (stsD sts)), (26, .i n), (27, .i k), (36, .d (arsD x.arcs)), (37, .i la), (38, .i i)], [(1, ⟨24, [.i st, .d (stsD sts)], false, 0⟩), (19, ⟨3, (bl (fun q => if q < (k + 1) then 1000000001 else 0) n).map V.n, false, 1⟩), (23, ⟨92, FE.cells 1000 (bl (fun q => if q < k then (stA sts q).map arcE else if q = k then (x.arcs.take i).map arcE else []) n), false, 1⟩)] ++ FE.objs 1000 (bl (fun q => if q < k then (stA sts q).map arcE else if q = k then (x.arcs.take i).map arcE else []) n), []⟩) (fun s' => la - s'.nat 38) ⟨_, ?_, 0, by omega, rfl⟩ ?_
      · have e : (bl (fun q => if q < k then (stA sts q).map arcE else if q = k then (x.arcs.take 0).map arcE else []) n) = (bl (fun q => if q < k then (stA sts q).map arcE else []) n) := bl_congr fun q _ => by
          by_cases e : q < k
          · rw [if_pos e, if_pos e]
          · rw [if_neg e, if_neg e]; split <;> simp
        rw [e, ← hCn]
        exact (Less.of rfl (by repeat (first | exact trivial | refine ⟨⟨_, rfl, Wk.refl _⟩, ?_⟩ | refine ⟨⟨_, rfl, Wk.nil _ _⟩, ?_⟩ | refine ⟨⟨_, rfl, Wk.junk _⟩, ?_⟩)) (by repeat (first | exact trivial | refine ⟨rfl, ?_⟩ | exact LH.fam | refine LH.skip (by decide) ?_)) rfl)
      rintro s' ⟨i, hi, rfl⟩
      by_cases hil : i < la
      · obtain ⟨y, hy⟩ := get_lt hla hil
        have hyt := (hz x (List.mem_of_getElem? hx)).2 y (List.mem_of_getElem? hy)
        have hsn := congrArg (List.map arcE) (take_snoc hy)
        rw [List.map_append, List.map_cons, List.map_nil] at hsn
        obtain ⟨yi, yo, yw, yt⟩ := y
        simp only [arOk, decide_eq_true_eq] at hyt
        obtain ⟨p, rfl⟩ : ∃ p : Nat, yt = p := ⟨yt.toNat, by omega⟩
        obtain ⟨w, rfl⟩ : ∃ w : Nat, yw = w := ⟨yw.toNat, by omega⟩
        have hae : arcE ⟨yi, yo, w, p⟩ = (p, w) := by simp [arcE]
        rw [hae] at hsn
        obtain ⟨Pf, hPf⟩ : ∃ P, (x.arcs.take i).map arcE = P := ⟨_, rfl⟩
        have hPl : Pf.length ≤ 400 := by rw [← hPf, List.length_map, List.length_take]; omega
        have hp0 : (bl (fun q => if q < k then (stA sts q).map arcE else if q = k then (x.arcs.take i).map arcE else []) n)[k]? = some Pf := by rw [bl_get hlt, ← hPf]; simp
        have hkl := (List.getElem?_eq_some_iff.1 hp0).1
        have hset : ((bl (fun q => if q < k then (stA sts q).map arcE else if q = k then (x.arcs.take i).map arcE else []) n).set k (Pf ++ [(p, w)]))[k]? = some (Pf ++ [(p, w)]) := by rw [List.getElem?_set_self hkl]
        have hlen0 : (FE.it Pf).length ≤ 1000000 := by simp [FE]; omega
        have hnext : (bl (fun q => if q < k then (stA sts q).map arcE else if q = k then (x.arcs.take i).map arcE else []) n).set k (Pf ++ [(p, w)]) = (bl (fun q => if q < k then (stA sts q).map arcE else if q = k then (x.arcs.take (i + 1)).map arcE else []) n) := bl_set hlt (by rw [if_neg (by omega), if_pos rfl, hsn, hPf]) fun q _ hq => by
          by_cases e : q < k
          · rw [if_pos e, if_pos e]
          · rw [if_neg e, if_neg e, if_neg hq, if_neg hq]
        refine AW.seq ?_
        refine AW.region ?_
        (first | (refine AL.rp rfl rfl (rp_lssT rfl rfl rfl (by first | assumption | omega)) ?_) | (refine AL.rp rfl rfl (rp_lssF rfl rfl rfl (by first | assumption | omega)) ?_) | (refine AL.rp rfl rfl (rp_lss rfl rfl rfl) ?_))
        refine AL.nil ?_
        try simp only [thenS, S.put, List.nil_append, List.cons_append]
        refine AW.seq ?_
        refine AW.condT rfl ?_
        refine AW.skip ?_
        try simp only [thenS, List.nil_append, List.cons_append]
        refine AW.seq ?_
        refine AW.block ?_
        refine AW.seq ?_
        refine AW.region ?_
        (first | (refine AL.rp rfl rfl (rp_index_map Try.underlying60 inf74 rfl rfl rfl rfl (by assumption)) ?_) | (refine AL.rp rfl rfl (rp_index_own Try.underlying60 inf74 rfl rfl rfl rfl (by first | assumption | omega)) ?_) | (refine AL.rp rfl rfl (rd_index_sl Try.underlying60 inf74 rfl rfl rfl rfl (by assumption)) ?_) | (refine AL.rp rfl rfl (rp_index_own Try.underlying60 inf74 rfl rfl rfl (by omega) (by omega)) ?_))
        (first | (refine AL.rd rfl rfl (rd_loads_ref Try.underlying74 rfl inf74 rfl rfl rfl rfl rfl rfl) ?_) | (refine AL.rd rfl rfl (rd_loads_ad Try.underlying74 rfl inf74 rfl rfl rfl rfl) ?_))
        refine AL.sm rfl (sm_alloc (l := [.d (.p (.int .i64 0)), .d (.p (.int .i64 0)), .d (.p (.int .i64 0)), .d (.p (.int .i64 0))]) 10 inf74 rfl (by first | rfl | (simp only [S.clean, S.put, S.newObj, List.all_cons, objs_clean_low, Nat.reduceLT]; simp [S.forget, V.has, V.hasL, junkIf, setL, V.cs, hasL_i, hasL_b, hasL_s, hasL_n, hasL_rep, hasL_flat, hasL_append, cells_hasL_low, has_ownV, hasL_frep, nb1, nb2, nb3, nb4, -List.map_set]; try omega)) rfl rfl) ?_
        refine AL.st rfl (st_store_any inf74 rfl rfl rfl rfl rfl rfl rfl rfl (by first | decide | (simp; omega)) rfl) ?_
        refine AL.nil ?_
        try simp only [thenS, S.put, S.newObj, setL, V.cs, List.length_cons, List.length_nil, List.take_succ_cons, List.take_zero, List.drop_succ_cons, List.drop_zero, List.drop_nil, List.nil_append, List.cons_append, List.append_nil, Nat.zero_add, Nat.reduceAdd, List.map_cons, List.map_nil, List.set_cons_zero, List.set_cons_succ]
        refine AW.drawX (1000 + k) [(0, true), (1, true), (2, true), (3, true), (4, true), (5, true), (6, true), (7, true), (8, true), (9, true), (10, true), (11, false), (12, false), (13, false), (14, false)] (fun i => !([13, 14] : List Nat).contains i) 15 (by kernel_rfl) (by kernel_rfl) rfl (by kernel_rfl) ?_
        refine AE1.rp rfl rfl rfl (fun _ _ h => h) (rp_move rfl rfl) ?_
        refine AE1.rp rfl rfl rfl (fun _ _ h => h) (rp_move rfl rfl) ?_
        refine AE1.rp rfl rfl rfl (fun _ _ h => h) (rp_move rfl rfl) ?_
        refine AE1.rp rfl rfl rfl (fun _ _ h => h) (rp_move rfl rfl) ?_
        (first | (refine AE1.rp rfl rfl rfl (fun _ _ h => h) (rp_index_map Try.underlying91 inf92 rfl rfl rfl rfl (by assumption)) ?_) | (refine AE1.rp rfl rfl rfl (fun _ _ h => h) (rp_index_own Try.underlying91 inf92 rfl rfl rfl rfl (by first | assumption | omega)) ?_) | (refine AE1.rp rfl rfl rfl (fun _ _ h => h) (rd_index_sl Try.underlying91 inf92 rfl rfl rfl rfl (by assumption)) ?_) | (refine AE1.rp rfl rfl rfl (fun _ _ h => h) (rp_index_own Try.underlying91 inf92 rfl rfl rfl (by omega) (by omega)) ?_))
        (first | (refine AE1.rx rfl rfl rfl (fun _ _ h => h) (rx_load_ref Try.underlying92 rfl rfl rfl rfl rfl rfl (by first | decide | omega)) ?_) | (refine AE1.rx rfl rfl rfl (fun _ _ h => h) (rx_load_ad Try.underlying92 rfl rfl rfl rfl) ?_) | (refine AE1.rx rfl rfl rfl (fun _ _ h => h) (rx_load_fam (m := 0) Try.underlying92 rfl rfl rfl rfl rfl rfl (fun _ => rfl) rfl (by assumption) (by first | decide | omega)) ?_) | (refine AE1.rx rfl rfl rfl (fun _ _ h => h) (rx_load_fam (m := 1) Try.underlying92 rfl rfl rfl rfl rfl rfl (fun _ => rfl) rfl (by assumption) (by first | decide | omega)) ?_))
        (first | (refine AE1.rp rfl rfl rfl (fun _ _ h => h) (rp_field_ref Try.underlying74 rfl rfl rfl inf3 (by decide) rfl) ?_) | (refine AE1.rp rfl rfl rfl (fun _ _ h => h) (rp_field_ad Try.underlying74 rfl rfl rfl inf3 (by decide) rfl) ?_))
        (first | (refine AE1.rx rfl rfl rfl (fun _ _ h => h) (rx_load_ref Try.underlying3 rfl rfl rfl rfl rfl rfl (by first | decide | omega)) ?_) | (refine AE1.rx rfl rfl rfl (fun _ _ h => h) (rx_load_ad Try.underlying3 rfl rfl rfl rfl) ?_) | (refine AE1.rx rfl rfl rfl (fun _ _ h => h) (rx_load_fam (m := 0) Try.underlying3 rfl rfl rfl rfl rfl rfl (fun _ => rfl) rfl (by assumption) (by first | decide | omega)) ?_) | (refine AE1.rx rfl rfl rfl (fun _ _ h => h) (rx_load_fam (m := 1) Try.underlying3 rfl rfl rfl rfl rfl rfl (fun _ => rfl) rfl (by assumption) (by first | decide | omega)) ?_))
        (first | (refine AE1.rp rfl rfl rfl (fun _ _ h => h) (rp_field_ref Try.underlying74 rfl rfl rfl inf3 (by decide) rfl) ?_) | (refine AE1.rp rfl rfl rfl (fun _ _ h => h) (rp_field_ad Try.underlying74 rfl rfl rfl inf3 (by decide) rfl) ?_))
        (first | (refine AE1.rx rfl rfl rfl (fun _ _ h => h) (rx_load_ref Try.underlying3 rfl rfl rfl rfl rfl rfl (by first | decide | omega)) ?_) | (refine AE1.rx rfl rfl rfl (fun _ _ h => h) (rx_load_ad Try.underlying3 rfl rfl rfl rfl) ?_) | (refine AE1.rx rfl rfl rfl (fun _ _ h => h) (rx_load_fam (m := 0) Try.underlying3 rfl rfl rfl rfl rfl rfl (fun _ => rfl) rfl (by assumption) (by first | decide | omega)) ?_) | (refine AE1.rx rfl rfl rfl (fun _ _ h => h) (rx_load_fam (m := 1) Try.underlying3 rfl rfl rfl rfl rfl rfl (fun _ => rfl) rfl (by assumption) (by first | decide | omega)) ?_))
        refine AE1.rp rfl rfl rfl (fun _ _ h => h) (rp_build (vs := [(0, _), (1, _)]) (zs := [.d (.p (.int .i64 0)), .d (.p (.int .i64 0))]) pl94 inf94 rfl rfl rfl rfl) ?_
        refine AE1.go ?_
        refine AE2.sm rfl rfl (sm_sliceG (vs := [(0, _)]) (zs := [.d (.p (.int .i64 0)), .d (.p (.int .i64 0))]) 53 Try.underlying92 inf94 rfl rfl (by decide) (by decide) (by decide) rfl rfl rfl rfl (by first | rfl | (simp only [S.clean, S.put, S.newObj, List.all_cons, objs_clean_low, Nat.reduceLT]; simp [S.forget, V.has, V.hasL, junkIf, setL, V.cs, hasL_i, hasL_b, hasL_s, hasL_n, hasL_rep, hasL_flat, hasL_append, cells_hasL_low, has_ownV, hasL_frep, nb1, nb2, nb3, nb4, -List.map_set]; try omega)) (by first | rfl | (simp only [S.clean, S.put, S.newObj, List.all_cons, objs_clean_low, Nat.reduceLT]; simp [S.forget, V.has, V.hasL, junkIf, setL, V.cs, hasL_i, hasL_b, hasL_s, hasL_n, hasL_rep, hasL_flat, hasL_append, cells_hasL_low, has_ownV, hasL_frep, nb1, nb2, nb3, nb4, -List.map_set]; try omega)) rfl) (by first | decide | omega) ?_
        (first | (refine AE2.st rfl rfl (st_append_famX (lits := [_, _, _, _, _, _]) (x' := Pf ++ [(p, w)]) (m := 0) (newrow := [.p (.int .i64 (p : Int)), .p (.int .i64 (w : Int))]) (rb := 23) Try.underlying92 inf94 rfl (by decide) (by decide) rfl rfl rfl (by assumption) (fun _ => rfl) (by intro x l hl; simp [FE] at hl; first | (obtain ⟨_, _, rfl⟩ := hl; rfl) | (obtain ⟨_, _, _, rfl⟩ := hl; rfl) | (rcases hl with ⟨_, _, rfl⟩ <;> rfl)) rfl rfl rfl rfl rfl rfl rfl rfl (by simp [FE]) rfl rfl (by simp [V.hasL, V.has, nb1, nb2, nb3, nb4, setL, V.cs, hasL_i, hasL_b, hasL_s, hasL_n, hasL_rep, hasL_flat, hasL_append, -List.map_set]; try omega) (by first | assumption | (simp [FE]; omega))) ?_))
        try simp only [S.put, S.newObj, List.map_cons, List.map_nil, junkHi, V.low, V.lowL, low_ownV, Nat.reduceLT, decide_true, decide_false, Bool.and_true, Bool.true_and, if_true, if_false, Bool.false_eq_true, ite_true, ite_false, ↓reduceIte, List.cons_append, List.nil_append]
        (first | (refine AD3.rp1 rfl rfl rfl rfl (rp_index_map Try.underlying91 inf92 rfl rfl rfl rfl (by assumption)) ?_) | (refine AD3.rp1 rfl rfl rfl rfl (rp_index_own Try.underlying91 inf92 rfl rfl rfl rfl (by first | assumption | omega)) ?_) | (refine AD3.rp1 rfl rfl rfl rfl (rd_index_sl Try.underlying91 inf92 rfl rfl rfl rfl (by assumption)) ?_) | (refine AD3.rp1 rfl rfl rfl rfl (rp_index_own Try.underlying91 inf92 rfl rfl rfl (by omega) (by omega)) ?_))
        (first | (refine AD3.st rfl rfl rfl (st_store_map2 inf92 rfl rfl rfl rfl rfl rfl rfl rfl (by first | assumption | omega)) ?_) | (refine AD3.st rfl rfl rfl (st_store_fam (m := 0) inf92 rfl rfl rfl rfl rfl rfl (fun _ => rfl) rfl rfl (by first | assumption | (simp; omega))) ?_) | (refine AD3.st rfl rfl rfl (st_store_fam (m := 1) inf92 rfl rfl rfl rfl rfl rfl (fun _ => rfl) rfl rfl (by first | assumption | (simp; omega))) ?_) | (refine AD3.st rfl rfl rfl (st_store inf92 rfl rfl rfl rfl rfl rfl rfl (by first | decide | (simp; done)) rfl) ?_))
        refine AD3.nil ?_
        try simp only [thenS, S.put, S.newObj, setL, V.cs, List.length_cons, List.length_nil, List.take_succ_cons, List.take_zero, List.drop_succ_cons, List.drop_zero, List.drop_nil, List.nil_append, List.cons_append, List.append_nil, Nat.zero_add, Nat.reduceAdd, List.map_cons, List.map_nil, List.set_cons_zero, List.set_cons_succ]
        refine AW.region ?_
        refine AL.rp rfl rfl (rp_add rfl rfl rfl (by omega)) ?_
        refine AL.rp rfl rfl (rp_move rfl rfl) ?_
        refine AL.nil ?_
        try simp only [thenS, S.put, List.nil_append, List.cons_append]
        refine ⟨_, ?_, ⟨i + 1, by omega, rfl⟩, ?_⟩
        · rw [← hnext]; exact (Less.of rfl (by repeat (first | exact trivial | refine ⟨⟨_, rfl, Wk.refl _⟩, ?_⟩ | refine ⟨⟨_, rfl, Wk.nil _ _⟩, ?_⟩ | refine ⟨⟨_, rfl, Wk.junk _⟩, ?_⟩)) (by repeat (first | exact trivial | refine ⟨rfl, ?_⟩ | exact LH.fam | refine LH.skip (by decide) ?_)) rfl)
        · simp [S.nat, fnd]; omega
      · have e : (bl (fun q => if q < k then (stA sts q).map arcE else if q = k then (x.arcs.take i).map arcE else []) n) = (bl (fun q => if q < (k + 1) then (stA sts q).map arcE else []) n) := bl_congr fun q _ => by
          by_cases e : q < k
          · rw [if_pos e, if_pos (by omega)]
          · rw [if_neg e]
            by_cases e2 : q = k
            · subst e2; rw [if_pos rfl, if_pos (by omega), List.take_of_length_le (by omega), stA_of hx]
            · rw [if_neg e2, if_neg (by omega)]
        rw [e]
        refine AW.seq ?_
        refine AW.region ?_
        (first | (refine AL.rp rfl rfl (rp_lssT rfl rfl rfl (by first | assumption | omega)) ?_) | (refine AL.rp rfl rfl (rp_lssF rfl rfl rfl (by first | assumption | omega)) ?_) | (refine AL.rp rfl rfl (rp_lss rfl rfl rfl) ?_))
        refine AL.nil ?_
        try simp only [thenS, S.put, List.nil_append, List.cons_append]
        refine AW.seq ?_
        refine AW.condF rfl ?_
        refine AW.exit ?_
        try simp only [thenS, inBlockS, ↓reduceIte, Nat.reduceEqDiff, List.nil_append, List.cons_append]
        refine AW.region ?_
        refine AL.rp rfl rfl (rp_add rfl rfl rfl (by omega)) ?_
        refine AL.rp rfl rfl (rp_move rfl rfl) ?_
        refine AL.nil ?_
        try simp only [thenS, S.put, List.nil_append, List.cons_append]
        refine ⟨_, ?_, ⟨k + 1, by omega, rfl⟩, ?_⟩
        · exact (Less.of rfl (by repeat (first | exact trivial | refine ⟨⟨_, rfl, Wk.refl _⟩, ?_⟩ | refine ⟨⟨_, rfl, Wk.nil _ _⟩, ?_⟩ | refine ⟨⟨_, rfl, Wk.junk _⟩, ?_⟩)) (by repeat (first | exact trivial | refine ⟨rfl, ?_⟩ | exact LH.fam | refine LH.skip (by decide) ?_)) rfl)
        · simp [S.nat, fnd]; omega
    · obtain rfl : k = n := by omega
      obtain ⟨n, rfl⟩ : ∃ n, n = k := ⟨_, rfl⟩
      have hBe : (bl (fun q => if q < n then (stA sts q).map arcE else []) n) = (frE ⟨st, sts⟩) := by rw [hEr]; exact bl_congr fun q hq => by rw [if_pos hq]
      rw [hBe]
      refine AW.seq ?_
      refine AW.region ?_
      (first | (refine AL.rp rfl rfl (rp_lssT rfl rfl rfl (by first | assumption | omega)) ?_) | (refine AL.rp rfl rfl (rp_lssF rfl rfl rfl (by first | assumption | omega)) ?_) | (refine AL.rp rfl rfl (rp_lss rfl rfl rfl) ?_))
      refine AL.nil ?_
      try simp only [thenS, S.put, List.nil_append, List.cons_append]
      refine AW.seq ?_
      refine AW.condF rfl ?_
      refine AW.exit ?_
      try simp only [thenS, inBlockS, ↓reduceIte, Nat.reduceEqDiff, List.nil_append, List.cons_append]
      refine AW.seqc (fun s' => s' = ⟨70, [(1, .ref 1 0), (5, .own 19 1 n false), (6, .own 23 1 n false)], [(1, ⟨24, [.i st, .d (stsD sts)], false, 0⟩), (19, ⟨3, (frF ⟨st, sts⟩).map V.n, false, 1⟩), (23, ⟨92, FE.cells 1000 (frE ⟨st, sts⟩), false, 1⟩)] ++ FE.objs 1000 (frE ⟨st, sts⟩), []⟩) ?_ ?_
      · skip
        by_cases hs0 : 0 ≤ st
        · obtain ⟨p, rfl⟩ : ∃ p : Nat, st = p := ⟨st.toNat, by omega⟩
          have hpn : p < n := by omega
          have hpC : p < (bl (fun q => if q < n then 1000000001 else 0) n).length := by rw [bl_len]; exact hpn
          have hCe : (bl (fun q => if q < n then 1000000001 else 0) n).set p 0 = frF ⟨p, sts⟩ := by
            rw [hFr]
            exact bl_set hpn (by simp) fun q hq hqp => by rw [if_pos hq, if_neg (by omega)]
          refine AW.seq ?_
          refine AW.region ?_
          (first | (refine AL.rp rfl rfl (rp_field_ref Try.underlying24 rfl rfl rfl inf3 (by decide) rfl) ?_) | (refine AL.rp rfl rfl (rp_field_ad Try.underlying24 rfl rfl rfl inf3 (by decide) rfl) ?_))
          (first | (refine AL.rd rfl rfl (rd_load_ref Try.underlying3 rfl rfl rfl rfl rfl rfl) ?_) | (refine AL.rd rfl rfl (rd_load_ad Try.underlying3 rfl rfl rfl rfl) ?_) | (refine AL.rd rfl rfl (rd_load_map Try.underlying3 rfl rfl rfl rfl rfl rfl (by assumption)) ?_) | (refine AL.rd rfl rfl (rd_load_fam (m := 0) Try.underlying3 rfl rfl rfl rfl rfl rfl (fun _ => rfl) rfl (by assumption)) ?_) | (refine AL.rd rfl rfl (rd_load_fam (m := 1) Try.underlying3 rfl rfl rfl rfl rfl rfl (fun _ => rfl) rfl (by assumption)) ?_) | (refine AL.rd rfl rfl (rd_load_fpre (m := 1) Try.underlying3 rfl rfl rfl rfl rfl rfl (fun _ => rfl) rfl (by assumption) rfl) ?_))
          (first | (refine AL.rp rfl rfl (rp_geqT rfl rfl rfl (by first | assumption | omega)) ?_) | (refine AL.rp rfl rfl (rp_geqF rfl rfl rfl (by first | assumption | omega)) ?_) | (refine AL.rp rfl rfl (rp_geq rfl rfl rfl) ?_))
          refine AL.nil ?_
          try simp only [thenS, S.put, List.nil_append, List.cons_append]
          refine AW.condT rfl ?_
          refine AW.region ?_
          refine AL.rp rfl rfl (rp_move rfl rfl) ?_
          (first | (refine AL.rp rfl rfl (rp_field_ref Try.underlying24 rfl rfl rfl inf3 (by decide) rfl) ?_) | (refine AL.rp rfl rfl (rp_field_ad Try.underlying24 rfl rfl rfl inf3 (by decide) rfl) ?_))
          (first | (refine AL.rd rfl rfl (rd_load_ref Try.underlying3 rfl rfl rfl rfl rfl rfl) ?_) | (refine AL.rd rfl rfl (rd_load_ad Try.underlying3 rfl rfl rfl rfl) ?_) | (refine AL.rd rfl rfl (rd_load_map Try.underlying3 rfl rfl rfl rfl rfl rfl (by assumption)) ?_) | (refine AL.rd rfl rfl (rd_load_fam (m := 0) Try.underlying3 rfl rfl rfl rfl rfl rfl (fun _ => rfl) rfl (by assumption)) ?_) | (refine AL.rd rfl rfl (rd_load_fam (m := 1) Try.underlying3 rfl rfl rfl rfl rfl rfl (fun _ => rfl) rfl (by assumption)) ?_) | (refine AL.rd rfl rfl (rd_load_fpre (m := 1) Try.underlying3 rfl rfl rfl rfl rfl rfl (fun _ => rfl) rfl (by assumption) rfl) ?_))
          (first | (refine AL.rp rfl rfl (rp_index_map Try.underlying41 inf3 rfl rfl rfl rfl (by assumption)) ?_) | (refine AL.rp rfl rfl (rp_index_own Try.underlying41 inf3 rfl rfl rfl rfl (by first | assumption | omega)) ?_) | (refine AL.rp rfl rfl (rd_index_sl Try.underlying41 inf3 rfl rfl rfl rfl (by assumption)) ?_) | (refine AL.rp rfl rfl (rp_index_own Try.underlying41 inf3 rfl rfl rfl (by omega) (by omega)) ?_))
          refine AL.st rfl (st_store_map2 (v := 0) inf3 rfl rfl rfl rfl rfl rfl rfl rfl (by first | assumption | omega)) ?_
          refine AL.nil ?_
          try simp only [thenS, S.put, S.newObj, setL, V.cs, List.length_cons, List.length_nil, List.take_succ_cons, List.take_zero, List.drop_succ_cons, List.drop_zero, List.drop_nil, List.nil_append, List.cons_append, List.append_nil, Nat.zero_add, Nat.reduceAdd, List.map_cons, List.map_nil, List.set_cons_zero, List.set_cons_succ]
          refine ⟨_, ?_, rfl⟩
          rw [← hCe]; exact (Less.of rfl (by repeat (first | exact trivial | refine ⟨⟨_, rfl, Wk.refl _⟩, ?_⟩ | refine ⟨⟨_, rfl, Wk.nil _ _⟩, ?_⟩ | refine ⟨⟨_, rfl, Wk.junk _⟩, ?_⟩)) (by repeat (first | exact trivial | refine ⟨rfl, ?_⟩ | exact LH.fam | refine LH.skip (by decide) ?_)) rfl)
        · have hCe : (bl (fun q => if q < n then 1000000001 else 0) n) = frF ⟨st, sts⟩ := by rw [hFr]; exact bl_congr fun q hq => by rw [if_pos hq, if_neg (by omega)]
          refine AW.seq ?_
          refine AW.region ?_
          (first | (refine AL.rp rfl rfl (rp_field_ref Try.underlying24 rfl rfl rfl inf3 (by decide) rfl) ?_) | (refine AL.rp rfl rfl (rp_field_ad Try.underlying24 rfl rfl rfl inf3 (by decide) rfl) ?_))
          (first | (refine AL.rd rfl rfl (rd_load_ref Try.underlying3 rfl rfl rfl rfl rfl rfl) ?_) | (refine AL.rd rfl rfl (rd_load_ad Try.underlying3 rfl rfl rfl rfl) ?_) | (refine AL.rd rfl rfl (rd_load_map Try.underlying3 rfl rfl rfl rfl rfl rfl (by assumption)) ?_) | (refine AL.rd rfl rfl (rd_load_fam (m := 0) Try.underlying3 rfl rfl rfl rfl rfl rfl (fun _ => rfl) rfl (by assumption)) ?_) | (refine AL.rd rfl rfl (rd_load_fam (m := 1) Try.underlying3 rfl rfl rfl rfl rfl rfl (fun _ => rfl) rfl (by assumption)) ?_) | (refine AL.rd rfl rfl (rd_load_fpre (m := 1) Try.underlying3 rfl rfl rfl rfl rfl rfl (fun _ => rfl) rfl (by assumption) rfl) ?_))
          (first | (refine AL.rp rfl rfl (rp_geqT rfl rfl rfl (by first | assumption | omega)) ?_) | (refine AL.rp rfl rfl (rp_geqF rfl rfl rfl (by first | assumption | omega)) ?_) | (refine AL.rp rfl rfl (rp_geq rfl rfl rfl) ?_))
          refine AL.nil ?_
          try simp only [thenS, S.put, List.nil_append, List.cons_append]
          refine AW.condF rfl ?_
          refine AW.skip ?_
          try simp only [thenS, List.nil_append, List.cons_append]
          refine ⟨_, ?_, rfl⟩
          rw [← hCe]; exact (Less.of rfl (by repeat (first | exact trivial | refine ⟨⟨_, rfl, Wk.refl _⟩, ?_⟩ | refine ⟨⟨_, rfl, Wk.nil _ _⟩, ?_⟩ | refine ⟨⟨_, rfl, Wk.junk _⟩, ?_⟩)) (by repeat (first | exact trivial | refine ⟨rfl, ?_⟩ | exact LH.fam | refine LH.skip (by decide) ?_)) rfl)
      · rintro s' rfl
        refine AW.famFreeze (F := FE) (m := 0) (base := 1000) (L := (frE ⟨st, sts⟩)) [_, _, _] 23 rfl rfl rfl rfl (fun _ => rfl) (by intro x l hl; simp [FE] at hl; obtain ⟨_, _, _, rfl⟩ := hl; rfl) ?_ rfl (by simp [V.hasL, V.has]) rfl rfl ?_
        · intro l hl
          have := (hEl l hl).1
          simp [FE]; omega
        refine AW.freeze 6 24 ((frE ⟨st, sts⟩).map FE.data) rfl rfl rfl (by rw [List.length_map, hEr, bl_len]) (by omega) (rowsF (sz := 1) (fun _ => rfl) rfl) ?_
        refine AW.freeze 5 8 ((frF ⟨st, sts⟩).map encN) rfl rfl rfl (by rw [List.length_map, hFr, bl_len]) (by omega) (rows1 rfl) ?_
        refine AW.less (s' := ⟨70, [(1, .ref 1 0), (5, .d (intsN (frF ⟨st, sts⟩))), (6, .d (.sl 1 24 ((frE ⟨st, sts⟩).map encE)))], [(1, ⟨24, [.i st, .d (stsD sts)], false, 0⟩)], []⟩) (Less.of rfl (by repeat (first | exact trivial | refine ⟨⟨_, rfl, Wk.refl _⟩, ?_⟩ | refine ⟨⟨_, rfl, Wk.nil _ _⟩, ?_⟩ | refine ⟨⟨_, rfl, Wk.junk _⟩, ?_⟩)) (by repeat (first | exact trivial | refine ⟨rfl, ?_⟩ | exact LH.fam | refine LH.skip (by decide) ?_)) rfl) ?_
        by_cases he : disE (frD ⟨st, sts⟩) ⟨st, sts⟩ = 0
        · have hcon := resI_eq hfar he
          refine AW.seq ?_
          refine AW.region ?_
          refine AL.rp rfl rfl (rp_move rfl rfl) ?_
          refine AL.rp rfl rfl (rp_move rfl rfl) ?_
          refine AL.call (post := ?pc1) rfl (sm_call (args := [_, _]) ?hc1 ⟨Try.func66, rfl, rfl, rfl, rfl⟩ rfl rfl rfl rfl) ?_
          case hc1 => exact hcon
          rintro _ rfl -
          try dsimp only
          refine AL.rp rfl rfl (rp_extract rfl rfl rfl) ?_
          refine AL.rp rfl rfl (rp_extract rfl rfl rfl) ?_
          refine AL.rp rfl rfl (rp_assign rfl rfl) ?_
          refine AL.rp rfl rfl (rp_assign rfl rfl) ?_
          refine AL.nil ?_
          try simp only [thenS, S.put, S.newObj, setL, V.cs, List.length_cons, List.length_nil, List.take_succ_cons, List.take_zero, List.drop_succ_cons, List.drop_zero, List.drop_nil, List.nil_append, List.cons_append, List.append_nil, Nat.zero_add, Nat.reduceAdd, List.map_cons, List.map_nil, List.set_cons_zero, List.set_cons_succ]
          refine AW.ret ?_
          exact ⟨[_, _], ⟨rfl, rfl, trivial⟩, .inr ⟨he, rfl⟩, by simp [tupOf, V.pure, V.has, V.hasL]⟩
        · have hcon := resI_ne hfar he
          refine AW.seq ?_
          refine AW.region ?_
          refine AL.rp rfl rfl (rp_move rfl rfl) ?_
          refine AL.rp rfl rfl (rp_move rfl rfl) ?_
          refine AL.call (post := ?pc2) rfl (sm_call (args := [_, _]) ?hc2 ⟨Try.func66, rfl, rfl, rfl, rfl⟩ rfl rfl rfl rfl) ?_
          case hc2 => exact hcon
          rintro _ rfl -
          try dsimp only
          refine AL.rp rfl rfl (rp_extract rfl rfl rfl) ?_
          refine AL.rp rfl rfl (rp_extract rfl rfl rfl) ?_
          refine AL.rp rfl rfl (rp_assign rfl rfl) ?_
          refine AL.rp rfl rfl (rp_assign rfl rfl) ?_
          refine AL.nil ?_
          try simp only [thenS, S.put, S.newObj, setL, V.cs, List.length_cons, List.length_nil, List.take_succ_cons, List.take_zero, List.drop_succ_cons, List.drop_zero, List.drop_nil, List.nil_append, List.cons_append, List.append_nil, Nat.zero_add, Nat.reduceAdd, List.map_cons, List.map_nil, List.set_cons_zero, List.set_cons_succ]
          refine AW.ret ?_
          exact ⟨[_, _], ⟨rfl, rfl, trivial⟩, .inl ⟨he, rfl⟩, by simp [tupOf, V.pure, V.has, V.hasL]⟩
  · have hE : disE (frD m) m = machE m := by unfold disE; rw [if_pos h0]
    have hL : disL (frD m) m = [] := by unfold disL; rw [if_neg (by rw [hE]; exact h0)]
    rw [hE, hL]
    obtain ⟨st, sts⟩ := m
    obtain ⟨e, he⟩ : ∃ e, machE ⟨st, sts⟩ = e := ⟨_, rfl⟩
    rw [he] at h0 ⊢
    refine Fn.intro (n := 70) ⟨Try.func33, rfl, rfl, rfl, rfl⟩ (by simp [V.pure, V.has, V.hasL]) (by simp) fun w0 out => ?_
    refine AW.seq ?_
    refine AW.region ?_
    refine AL.sm rfl (sm_box 1 rfl rfl rfl (by first | rfl | (simp only [S.clean, S.put, S.newObj, List.all_cons, objs_clean_low, Nat.reduceLT]; simp [S.forget, V.has, V.hasL, junkIf, setL, V.cs, hasL_i, hasL_b, hasL_s, hasL_n, hasL_rep, hasL_flat, hasL_append, cells_hasL_low, has_ownV, hasL_frep, nb1, nb2, nb3, nb4, -List.map_set]; try omega)) rfl) ?_
    refine AL.rp rfl rfl (rp_assign rfl rfl) ?_
    refine AL.rp rfl rfl (rp_assign rfl rfl) ?_
    refine AL.nil ?_
    try simp only [thenS, S.put, S.newObj, setL, V.cs, List.length_cons, List.length_nil, List.take_succ_cons, List.take_zero, List.drop_succ_cons, List.drop_zero, List.drop_nil, List.nil_append, List.cons_append, List.append_nil, Nat.zero_add, Nat.reduceAdd, List.map_cons, List.map_nil, List.set_cons_zero, List.set_cons_succ, enum]
    refine AW.seq ?_
    refine AW.seq ?_
    refine AW.region ?_
    (first | (refine AL.rd rfl rfl (rd_loads_ref Try.underlying24 rfl inf24 rfl rfl rfl rfl rfl rfl) ?_) | (refine AL.rd rfl rfl (rd_loads_ad Try.underlying24 rfl inf24 rfl rfl rfl rfl) ?_))
    refine AL.call (post := ?pc3) rfl (sm_call (args := [_]) ?hc3 ⟨Try.func55, rfl, rfl, rfl, rfl⟩ rfl rfl rfl rfl) ?_
    case hc3 => exact Fn.eqi (am_Check ⟨st, sts⟩) he
    rintro _ rfl -
    try dsimp only
    refine AL.rp rfl rfl (rp_assign rfl rfl) ?_
    refine AL.nil ?_
    try simp only [thenS, S.put, S.newObj, setL, V.cs, List.length_cons, List.length_nil, List.take_succ_cons, List.take_zero, List.drop_succ_cons, List.drop_zero, List.drop_nil, List.nil_append, List.cons_append, List.append_nil, Nat.zero_add, Nat.reduceAdd, List.map_cons, List.map_nil, List.set_cons_zero, List.set_cons_succ]
    refine AW.seq ?_
    refine AW.region ?_
    refine AL.rp rfl rfl (rp_move rfl rfl) ?_
    (first | (refine AL.rp rfl rfl (rp_neqT rfl rfl rfl (by first | assumption | omega)) ?_) | (refine AL.rp rfl rfl (rp_neqF rfl rfl rfl (by first | assumption | omega)) ?_) | (refine AL.rp rfl rfl (rp_neq rfl rfl rfl) ?_))
    refine AL.nil ?_
    try simp only [thenS, S.put, List.nil_append, List.cons_append]
    refine AW.condT rfl ?_
    refine AW.seq ?_
    refine AW.region ?_
    refine AL.rp rfl rfl (rp_move rfl rfl) ?_
    refine AL.rp rfl rfl (rp_assign rfl rfl) ?_
    refine AL.rp rfl rfl (rp_assign rfl rfl) ?_
    refine AL.nil ?_
    try simp only [thenS, S.put, List.nil_append, List.cons_append]
    refine AW.ret ?_
    exact ⟨[_, _], ⟨rfl, rfl, trivial⟩, .inl ⟨h0, rfl⟩, by simp [tupOf, V.pure, V.has, V.hasL]⟩
theorem am_From (m : Mach) : Fn Try.prog 33 [mV m] (fun v => v = .tup [.d (intsD ((disL (frD m) m).map fun x : Nat => (x : Int))), .i (disE (frD m) m)]) := (am_From0 m).wk (resI_wk disL_nil)
end Go.Proofs.Ytdpniifajmpmkaa
