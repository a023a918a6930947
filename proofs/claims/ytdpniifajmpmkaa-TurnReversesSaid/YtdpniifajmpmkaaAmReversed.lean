/- The document's Reverse. -/
import Derived.Test.YtdpniifajmpmkaaAmFault
import Derived.Test.YtdpniifajmpmkaaAmSame
import Derived.Test.YtdpniifajmpmkaaAmU
import Derived.Test.YtdpniifajmpmkaaRev
namespace Go.Proofs.Ytdpniifajmpmkaa
open Go.RowKit
set_option linter.unusedSimpArgs false
set_option linter.unusedVariables false
set_option maxRecDepth 100000

theorem am_Fits (m : Mach) (hs : m.states.length ≤ 1000000) (ha : arcN m.states ≤ 1000000000) : Fn Try.prog 53 [mV m] (fun v => (60 < m.states.length ∨ 400 < arcN m.states) ∧ v = .tup [.agg [.i 0, .nil], .i 5] ∨ ¬ (60 < m.states.length ∨ 400 < arcN m.states) ∧ v = .tup [mV m, .i 0]) := by
  obtain ⟨st, sts⟩ := m
  simp only at hs ha ⊢
  obtain ⟨n, hn⟩ : ∃ n, sts.length = n := ⟨_, rfl⟩
  rw [hn] at hs ⊢
  refine Fn.intro (n := 15) ⟨Try.func53, rfl, rfl, rfl, rfl⟩ (by simp [V.pure, V.has, V.hasL]) (by simp) fun w0 out => ?_
  by_cases h1 : 60 < n
  · skip
    refine AW.seq ?_
    refine AW.region ?_
    refine AL.sm rfl (sm_box 1 rfl rfl rfl (by first | rfl | simp [S.clean, S.put, S.newObj, S.forget, V.has, V.hasL, junkIf, setL, V.cs, hasL_i, hasL_b, hasL_s, hasL_n, hasL_rep, hasL_flat, hasL_append, -List.map_set]) rfl) ?_
    refine AL.sm rfl (sm_alloc (l := [.d (.p (.int .i64 0)), .d (.p (.slice none 0 0))]) 2 inf24 rfl (by first | rfl | simp [S.clean, S.put, S.newObj, S.forget, V.has, V.hasL, junkIf, setL, V.cs, hasL_i, hasL_b, hasL_s, hasL_n, hasL_rep, hasL_flat, hasL_append, -List.map_set]) rfl rfl) ?_
    refine AL.rp rfl rfl (rp_assign rfl rfl) ?_
    refine AL.nil ?_
    try simp only [thenS, S.put, S.newObj, setL, V.cs, List.length_cons, List.length_nil, List.take_succ_cons, List.take_zero, List.drop_succ_cons, List.drop_zero, List.drop_nil, List.nil_append, List.cons_append, List.append_nil, Nat.zero_add, Nat.reduceAdd, List.map_cons, List.map_nil, List.set_cons_zero, List.set_cons_succ, enum]
    refine AW.seq ?_
    refine AW.seq ?_
    refine AW.region ?_
    (first | (refine AL.rp rfl rfl (rp_field_ref Try.underlying24 rfl rfl rfl inf22 (by decide) rfl) ?_) | (refine AL.rp rfl rfl (rp_field_ad Try.underlying24 rfl rfl rfl inf22 (by decide) rfl) ?_))
    (first | (refine AL.rd rfl rfl (rd_load_ref Try.underlying22 rfl rfl rfl rfl rfl rfl) ?_) | (refine AL.rd rfl rfl (rd_load_ad Try.underlying22 rfl rfl rfl rfl) ?_) | (refine AL.rd rfl rfl (rd_load_map Try.underlying22 rfl rfl rfl rfl rfl rfl (by assumption)) ?_))
    (first | (refine AL.rp rfl rfl (rp_len_map Try.underlying22 rfl rfl (by assumption)) ?_) | (refine AL.rp rfl rfl (rp_len_own Try.underlying22 rfl rfl) ?_) | (refine AL.rp rfl rfl (rp_len_sl Try.underlying22 rfl rfl) ?_) | (refine AL.rp rfl rfl (rp_len_nil Try.underlying22 rfl rfl) ?_) | (refine AL.rp rfl rfl (rp_len_str Try.underlying22 rfl rfl) ?_))
    (first | (refine AL.rp rfl rfl (rp_gtrT rfl rfl rfl (by first | assumption | omega)) ?_) | (refine AL.rp rfl rfl (rp_gtrF rfl rfl rfl (by first | assumption | omega)) ?_) | (refine AL.rp rfl rfl (rp_gtr rfl rfl rfl) ?_))
    refine AL.rp rfl rfl (rp_move rfl rfl) ?_
    (first | (refine AL.no rfl rfl rfl rfl ?_) | (refine AL.rdy rfl rfl rfl (rd_loads_ref Try.underlying24 rfl inf24 rfl rfl rfl rfl rfl rfl) ?_) | (refine AL.rdy rfl rfl rfl (rd_loads_ad Try.underlying24 rfl inf24 rfl rfl rfl rfl) ?_))
    (first | (refine AL.no rfl rfl rfl rfl ?_) | (refine AL.cally (post := ?pc0) rfl rfl (sm_call (args := [_]) ?hc0 ⟨Try.func80, rfl, rfl, rfl, rfl⟩ rfl rfl rfl rfl) ?_; (case hc0 => (exact am_ArcCount ⟨st, sts⟩ (by simp only [hn]; omega))); rintro _ rfl -; try dsimp only))
    (first | (refine AL.no rfl rfl rfl rfl ?_) | (refine AL.rpy rfl rfl rfl (rp_gtrT rfl rfl rfl (by first | assumption | omega)) ?_) | (refine AL.rpy rfl rfl rfl (rp_gtrF rfl rfl rfl (by first | assumption | omega)) ?_) | (refine AL.rpy rfl rfl rfl (rp_gtr rfl rfl rfl) ?_))
    refine AL.rp rfl rfl (rp_pick rfl rfl rfl) ?_
    refine AL.nil ?_
    try simp only [thenS, S.put, S.newObj, setL, V.cs, List.length_cons, List.length_nil, List.take_succ_cons, List.take_zero, List.drop_succ_cons, List.drop_zero, List.drop_nil, List.nil_append, List.cons_append, List.append_nil, Nat.zero_add, Nat.reduceAdd, List.map_cons, List.map_nil, List.set_cons_zero, List.set_cons_succ]
    refine AW.condT rfl ?_
    refine AW.seq ?_
    refine AW.region ?_
    refine AL.rp rfl rfl (rp_build (vs := []) (zs := [.d (.p (.int .i64 0)), .d (.p (.slice none 0 0))]) pl24 inf24 rfl rfl rfl rfl) ?_
    refine AL.st rfl (st_store_any inf24 rfl rfl rfl rfl rfl rfl rfl rfl (by first | decide | (simp; omega)) rfl) ?_
    refine AL.rp rfl rfl (rp_assign rfl rfl) ?_
    refine AL.nil ?_
    try simp only [thenS, S.put, S.newObj, setL, V.cs, List.length_cons, List.length_nil, List.take_succ_cons, List.take_zero, List.drop_succ_cons, List.drop_zero, List.drop_nil, List.nil_append, List.cons_append, List.append_nil, Nat.zero_add, Nat.reduceAdd, List.map_cons, List.map_nil, List.set_cons_zero, List.set_cons_succ]
    refine AW.ret ?_
    exact ⟨[_, _], ⟨⟨2, 0, _, _, rfl, rfl, rfl, Try.underlying24, .inr ⟨rfl, _, _, _, _, inf24, rfl, rfl, rfl⟩⟩, rfl, trivial⟩, .inl ⟨.inl h1, rfl⟩, by simp [tupOf, V.pure, V.has, V.hasL]⟩
  · by_cases h2 : 400 < arcN sts
    · skip
      refine AW.seq ?_
      refine AW.region ?_
      refine AL.sm rfl (sm_box 1 rfl rfl rfl (by first | rfl | simp [S.clean, S.put, S.newObj, S.forget, V.has, V.hasL, junkIf, setL, V.cs, hasL_i, hasL_b, hasL_s, hasL_n, hasL_rep, hasL_flat, hasL_append, -List.map_set]) rfl) ?_
      refine AL.sm rfl (sm_alloc (l := [.d (.p (.int .i64 0)), .d (.p (.slice none 0 0))]) 2 inf24 rfl (by first | rfl | simp [S.clean, S.put, S.newObj, S.forget, V.has, V.hasL, junkIf, setL, V.cs, hasL_i, hasL_b, hasL_s, hasL_n, hasL_rep, hasL_flat, hasL_append, -List.map_set]) rfl rfl) ?_
      refine AL.rp rfl rfl (rp_assign rfl rfl) ?_
      refine AL.nil ?_
      try simp only [thenS, S.put, S.newObj, setL, V.cs, List.length_cons, List.length_nil, List.take_succ_cons, List.take_zero, List.drop_succ_cons, List.drop_zero, List.drop_nil, List.nil_append, List.cons_append, List.append_nil, Nat.zero_add, Nat.reduceAdd, List.map_cons, List.map_nil, List.set_cons_zero, List.set_cons_succ, enum]
      refine AW.seq ?_
      refine AW.seq ?_
      refine AW.region ?_
      (first | (refine AL.rp rfl rfl (rp_field_ref Try.underlying24 rfl rfl rfl inf22 (by decide) rfl) ?_) | (refine AL.rp rfl rfl (rp_field_ad Try.underlying24 rfl rfl rfl inf22 (by decide) rfl) ?_))
      (first | (refine AL.rd rfl rfl (rd_load_ref Try.underlying22 rfl rfl rfl rfl rfl rfl) ?_) | (refine AL.rd rfl rfl (rd_load_ad Try.underlying22 rfl rfl rfl rfl) ?_) | (refine AL.rd rfl rfl (rd_load_map Try.underlying22 rfl rfl rfl rfl rfl rfl (by assumption)) ?_))
      (first | (refine AL.rp rfl rfl (rp_len_map Try.underlying22 rfl rfl (by assumption)) ?_) | (refine AL.rp rfl rfl (rp_len_own Try.underlying22 rfl rfl) ?_) | (refine AL.rp rfl rfl (rp_len_sl Try.underlying22 rfl rfl) ?_) | (refine AL.rp rfl rfl (rp_len_nil Try.underlying22 rfl rfl) ?_) | (refine AL.rp rfl rfl (rp_len_str Try.underlying22 rfl rfl) ?_))
      (first | (refine AL.rp rfl rfl (rp_gtrT rfl rfl rfl (by first | assumption | omega)) ?_) | (refine AL.rp rfl rfl (rp_gtrF rfl rfl rfl (by first | assumption | omega)) ?_) | (refine AL.rp rfl rfl (rp_gtr rfl rfl rfl) ?_))
      refine AL.rp rfl rfl (rp_move rfl rfl) ?_
      (first | (refine AL.no rfl rfl rfl rfl ?_) | (refine AL.rdy rfl rfl rfl (rd_loads_ref Try.underlying24 rfl inf24 rfl rfl rfl rfl rfl rfl) ?_) | (refine AL.rdy rfl rfl rfl (rd_loads_ad Try.underlying24 rfl inf24 rfl rfl rfl rfl) ?_))
      (first | (refine AL.no rfl rfl rfl rfl ?_) | (refine AL.cally (post := ?pc1) rfl rfl (sm_call (args := [_]) ?hc1 ⟨Try.func80, rfl, rfl, rfl, rfl⟩ rfl rfl rfl rfl) ?_; (case hc1 => (exact am_ArcCount ⟨st, sts⟩ (by simp only [hn]; omega))); rintro _ rfl -; try dsimp only))
      (first | (refine AL.no rfl rfl rfl rfl ?_) | (refine AL.rpy rfl rfl rfl (rp_gtrT rfl rfl rfl (by first | assumption | omega)) ?_) | (refine AL.rpy rfl rfl rfl (rp_gtrF rfl rfl rfl (by first | assumption | omega)) ?_) | (refine AL.rpy rfl rfl rfl (rp_gtr rfl rfl rfl) ?_))
      refine AL.rp rfl rfl (rp_pick rfl rfl rfl) ?_
      refine AL.nil ?_
      try simp only [thenS, S.put, S.newObj, setL, V.cs, List.length_cons, List.length_nil, List.take_succ_cons, List.take_zero, List.drop_succ_cons, List.drop_zero, List.drop_nil, List.nil_append, List.cons_append, List.append_nil, Nat.zero_add, Nat.reduceAdd, List.map_cons, List.map_nil, List.set_cons_zero, List.set_cons_succ]
      refine AW.condT rfl ?_
      refine AW.seq ?_
      refine AW.region ?_
      refine AL.rp rfl rfl (rp_build (vs := []) (zs := [.d (.p (.int .i64 0)), .d (.p (.slice none 0 0))]) pl24 inf24 rfl rfl rfl rfl) ?_
      refine AL.st rfl (st_store_any inf24 rfl rfl rfl rfl rfl rfl rfl rfl (by first | decide | (simp; omega)) rfl) ?_
      refine AL.rp rfl rfl (rp_assign rfl rfl) ?_
      refine AL.nil ?_
      try simp only [thenS, S.put, S.newObj, setL, V.cs, List.length_cons, List.length_nil, List.take_succ_cons, List.take_zero, List.drop_succ_cons, List.drop_zero, List.drop_nil, List.nil_append, List.cons_append, List.append_nil, Nat.zero_add, Nat.reduceAdd, List.map_cons, List.map_nil, List.set_cons_zero, List.set_cons_succ]
      refine AW.ret ?_
      exact ⟨[_, _], ⟨⟨2, 0, _, _, rfl, rfl, rfl, Try.underlying24, .inr ⟨rfl, _, _, _, _, inf24, rfl, rfl, rfl⟩⟩, rfl, trivial⟩, .inl ⟨.inr h2, rfl⟩, by simp [tupOf, V.pure, V.has, V.hasL]⟩
    · skip
      refine AW.seq ?_
      refine AW.region ?_
      refine AL.sm rfl (sm_box 1 rfl rfl rfl (by first | rfl | simp [S.clean, S.put, S.newObj, S.forget, V.has, V.hasL, junkIf, setL, V.cs, hasL_i, hasL_b, hasL_s, hasL_n, hasL_rep, hasL_flat, hasL_append, -List.map_set]) rfl) ?_
      refine AL.sm rfl (sm_alloc (l := [.d (.p (.int .i64 0)), .d (.p (.slice none 0 0))]) 2 inf24 rfl (by first | rfl | simp [S.clean, S.put, S.newObj, S.forget, V.has, V.hasL, junkIf, setL, V.cs, hasL_i, hasL_b, hasL_s, hasL_n, hasL_rep, hasL_flat, hasL_append, -List.map_set]) rfl rfl) ?_
      refine AL.rp rfl rfl (rp_assign rfl rfl) ?_
      refine AL.nil ?_
      try simp only [thenS, S.put, S.newObj, setL, V.cs, List.length_cons, List.length_nil, List.take_succ_cons, List.take_zero, List.drop_succ_cons, List.drop_zero, List.drop_nil, List.nil_append, List.cons_append, List.append_nil, Nat.zero_add, Nat.reduceAdd, List.map_cons, List.map_nil, List.set_cons_zero, List.set_cons_succ, enum]
      refine AW.seq ?_
      refine AW.seq ?_
      refine AW.region ?_
      (first | (refine AL.rp rfl rfl (rp_field_ref Try.underlying24 rfl rfl rfl inf22 (by decide) rfl) ?_) | (refine AL.rp rfl rfl (rp_field_ad Try.underlying24 rfl rfl rfl inf22 (by decide) rfl) ?_))
      (first | (refine AL.rd rfl rfl (rd_load_ref Try.underlying22 rfl rfl rfl rfl rfl rfl) ?_) | (refine AL.rd rfl rfl (rd_load_ad Try.underlying22 rfl rfl rfl rfl) ?_) | (refine AL.rd rfl rfl (rd_load_map Try.underlying22 rfl rfl rfl rfl rfl rfl (by assumption)) ?_))
      (first | (refine AL.rp rfl rfl (rp_len_map Try.underlying22 rfl rfl (by assumption)) ?_) | (refine AL.rp rfl rfl (rp_len_own Try.underlying22 rfl rfl) ?_) | (refine AL.rp rfl rfl (rp_len_sl Try.underlying22 rfl rfl) ?_) | (refine AL.rp rfl rfl (rp_len_nil Try.underlying22 rfl rfl) ?_) | (refine AL.rp rfl rfl (rp_len_str Try.underlying22 rfl rfl) ?_))
      (first | (refine AL.rp rfl rfl (rp_gtrT rfl rfl rfl (by first | assumption | omega)) ?_) | (refine AL.rp rfl rfl (rp_gtrF rfl rfl rfl (by first | assumption | omega)) ?_) | (refine AL.rp rfl rfl (rp_gtr rfl rfl rfl) ?_))
      refine AL.rp rfl rfl (rp_move rfl rfl) ?_
      (first | (refine AL.no rfl rfl rfl rfl ?_) | (refine AL.rdy rfl rfl rfl (rd_loads_ref Try.underlying24 rfl inf24 rfl rfl rfl rfl rfl rfl) ?_) | (refine AL.rdy rfl rfl rfl (rd_loads_ad Try.underlying24 rfl inf24 rfl rfl rfl rfl) ?_))
      (first | (refine AL.no rfl rfl rfl rfl ?_) | (refine AL.cally (post := ?pc2) rfl rfl (sm_call (args := [_]) ?hc2 ⟨Try.func80, rfl, rfl, rfl, rfl⟩ rfl rfl rfl rfl) ?_; (case hc2 => (exact am_ArcCount ⟨st, sts⟩ (by simp only [hn]; omega))); rintro _ rfl -; try dsimp only))
      (first | (refine AL.no rfl rfl rfl rfl ?_) | (refine AL.rpy rfl rfl rfl (rp_gtrT rfl rfl rfl (by first | assumption | omega)) ?_) | (refine AL.rpy rfl rfl rfl (rp_gtrF rfl rfl rfl (by first | assumption | omega)) ?_) | (refine AL.rpy rfl rfl rfl (rp_gtr rfl rfl rfl) ?_))
      refine AL.rp rfl rfl (rp_pick rfl rfl rfl) ?_
      refine AL.nil ?_
      try simp only [thenS, S.put, S.newObj, setL, V.cs, List.length_cons, List.length_nil, List.take_succ_cons, List.take_zero, List.drop_succ_cons, List.drop_zero, List.drop_nil, List.nil_append, List.cons_append, List.append_nil, Nat.zero_add, Nat.reduceAdd, List.map_cons, List.map_nil, List.set_cons_zero, List.set_cons_succ]
      refine AW.condF rfl ?_
      refine AW.skip ?_
      try simp only [thenS]
      refine AW.seq ?_
      refine AW.region ?_
      (first | (refine AL.rd rfl rfl (rd_loads_ref Try.underlying24 rfl inf24 rfl rfl rfl rfl rfl rfl) ?_) | (refine AL.rd rfl rfl (rd_loads_ad Try.underlying24 rfl inf24 rfl rfl rfl rfl) ?_))
      refine AL.st rfl (st_store_any inf24 rfl rfl rfl rfl rfl rfl rfl rfl (by first | decide | (simp; omega)) rfl) ?_
      refine AL.rp rfl rfl (rp_assign rfl rfl) ?_
      refine AL.nil ?_
      try simp only [thenS, S.put, S.newObj, setL, V.cs, List.length_cons, List.length_nil, List.take_succ_cons, List.take_zero, List.drop_succ_cons, List.drop_zero, List.drop_nil, List.nil_append, List.cons_append, List.append_nil, Nat.zero_add, Nat.reduceAdd, List.map_cons, List.map_nil, List.set_cons_zero, List.set_cons_succ]
      refine AW.ret ?_
      exact ⟨[_, _], ⟨⟨2, 0, _, _, rfl, rfl, rfl, Try.underlying24, .inr ⟨rfl, _, _, _, _, inf24, rfl, rfl, rfl⟩⟩, rfl, trivial⟩, .inr ⟨by omega, rfl⟩, by simp [tupOf, V.pure, V.has, V.hasL]⟩

theorem am_into (m : Mach) (p : Nat) (h0 : machE m = 0) : Fn Try.prog 57 [mV m, .i (p : Int)] (fun v => v = .d (arsD (intoL m.states p m.states.length))) := by
  obtain ⟨h60, h400, hst, hz⟩ := machE_zero h0
  obtain ⟨st, sts⟩ := m
  simp only at h60 h400 hst hz ⊢
  have hal4 : ∀ x ∈ sts, x.arcs.length ≤ 400 := fun x hx => Nat.le_trans (arcN_mem sts x hx) h400
  obtain ⟨n, hn⟩ : ∃ n, sts.length = n := ⟨_, rfl⟩
  rw [hn] at h60 hst hz ⊢
  have hil := intoL_len hal4 p
  refine Fn.intro (n := 57) ⟨Try.func57, rfl, rfl, rfl, rfl⟩ (by simp [V.pure, V.has, V.hasL]) (by simp) fun w0 out => ?_
  refine AW.seq ?_
  refine AW.region ?_
  refine AL.sm rfl (sm_box 2 rfl rfl rfl (by first | rfl | simp [S.clean, S.put, S.newObj, S.forget, V.has, V.hasL, junkIf, setL, V.cs, hasL_i, hasL_b, hasL_s, hasL_n, hasL_rep, hasL_flat, hasL_append, -List.map_set]) rfl) ?_
  refine AL.rp rfl rfl (rp_assign rfl rfl) ?_
  refine AL.nil ?_
  try simp only [thenS, S.put, S.newObj, setL, V.cs, List.length_cons, List.length_nil, List.take_succ_cons, List.take_zero, List.drop_succ_cons, List.drop_zero, List.drop_nil, List.nil_append, List.cons_append, List.append_nil, Nat.zero_add, Nat.reduceAdd, List.map_cons, List.map_nil, List.set_cons_zero, List.set_cons_succ, enum]
  refine AW.seq ?_
  refine AW.region ?_
  refine AL.rp rfl rfl (rp_assign rfl rfl) ?_
  refine AL.nil ?_
  try simp only [thenS, S.put]
  refine AW.seq ?_
  refine AW.seq ?_
  refine AW.adopt 5 100 4 74 rfl (by simp [S.clean, V.has, V.hasL]) ?_
  refine AW.region ?_
  refine AL.rp rfl rfl (rp_assign rfl rfl) ?_
  refine AL.nil ?_
  try simp only [thenS, S.put]
  refine AW.block ?_
  refine AW.loop (fun s' => ∃ k : Nat, k ≤ n ∧ s' = ⟨57, [(1, .i p), (2, .ref 2 0), (5, .own 100 4 (intoL sts p k).length (decide ((intoL sts p k).length = 0))), (6, .i k)], [(2, ⟨24, [.i st, .d (stsD sts)], false, 0⟩), (100, ⟨74, (intoL sts p k).flatMap arV2, decide ((intoL sts p k).length = 0), 4⟩)], []⟩) (fun s' => n - s'.nat 6) ⟨_, ?_, 0, by omega, rfl⟩ ?_
  · exact (Less.of rfl (by repeat (first | exact trivial | refine ⟨⟨_, rfl, Wk.refl _⟩, ?_⟩ | refine ⟨⟨_, rfl, Wk.nil _ _⟩, ?_⟩ | refine ⟨⟨_, rfl, Wk.junk _⟩, ?_⟩)) (by repeat (first | exact trivial | refine ⟨rfl, ?_⟩)) rfl)
  rintro s' ⟨k, hk, rfl⟩
  by_cases hlt : k < n
  · obtain ⟨x, hx⟩ := get_lt hn hlt
    obtain ⟨la, hla⟩ : ∃ n, x.arcs.length = n := ⟨_, rfl⟩
    have hla' := hal4 x (List.mem_of_getElem? hx)
    rw [hla] at hla'
    have hik := hil k
    refine AW.seq ?_
    refine AW.seq ?_
    refine AW.region ?_
    refine AL.rp rfl rfl (rp_move rfl rfl) ?_
    (first | (refine AL.rp rfl rfl (rp_field_ref Try.underlying24 rfl rfl rfl inf22 (by decide) rfl) ?_) | (refine AL.rp rfl rfl (rp_field_ad Try.underlying24 rfl rfl rfl inf22 (by decide) rfl) ?_))
    (first | (refine AL.rd rfl rfl (rd_load_ref Try.underlying22 rfl rfl rfl rfl rfl rfl) ?_) | (refine AL.rd rfl rfl (rd_load_ad Try.underlying22 rfl rfl rfl rfl) ?_) | (refine AL.rd rfl rfl (rd_load_map Try.underlying22 rfl rfl rfl rfl rfl rfl (by assumption)) ?_))
    (first | (refine AL.rp rfl rfl (rp_len_map Try.underlying22 rfl rfl (by assumption)) ?_) | (refine AL.rp rfl rfl (rp_len_own Try.underlying22 rfl rfl) ?_) | (refine AL.rp rfl rfl (rp_len_sl Try.underlying22 rfl rfl) ?_) | (refine AL.rp rfl rfl (rp_len_nil Try.underlying22 rfl rfl) ?_) | (refine AL.rp rfl rfl (rp_len_str Try.underlying22 rfl rfl) ?_))
    (first | (refine AL.rp rfl rfl (rp_lssT rfl rfl rfl (by first | assumption | omega)) ?_) | (refine AL.rp rfl rfl (rp_lssF rfl rfl rfl (by first | assumption | omega)) ?_) | (refine AL.rp rfl rfl (rp_lss rfl rfl rfl) ?_))
    refine AL.nil ?_
    try simp only [thenS, S.put]
    refine AW.condT rfl ?_
    refine AW.skip ?_
    try simp only [thenS]
    refine AW.seq ?_
    refine AW.block ?_
    refine AW.seq ?_
    refine AW.region ?_
    (first | (refine AL.rp rfl rfl (rp_field_ref Try.underlying24 rfl rfl rfl inf22 (by decide) rfl) ?_) | (refine AL.rp rfl rfl (rp_field_ad Try.underlying24 rfl rfl rfl inf22 (by decide) rfl) ?_))
    (first | (refine AL.rd rfl rfl (rd_load_ref Try.underlying22 rfl rfl rfl rfl rfl rfl) ?_) | (refine AL.rd rfl rfl (rd_load_ad Try.underlying22 rfl rfl rfl rfl) ?_) | (refine AL.rd rfl rfl (rd_load_map Try.underlying22 rfl rfl rfl rfl rfl rfl (by assumption)) ?_))
    refine AL.rp rfl rfl (rp_move rfl rfl) ?_
    (first | (refine AL.rp rfl rfl (rp_index_map Try.underlying22 inf62 rfl rfl rfl rfl (by assumption)) ?_) | (refine AL.rp rfl rfl (rp_index_own Try.underlying22 inf62 rfl rfl rfl rfl (by first | assumption | omega)) ?_) | (refine AL.rp rfl rfl (rd_index_sl Try.underlying22 inf62 rfl rfl rfl rfl (by assumption)) ?_) | (refine AL.rp rfl rfl (rp_index_own Try.underlying22 inf62 rfl rfl rfl (by omega) (by omega)) ?_))
    (first | (refine AL.rp rfl rfl (rp_field_ref Try.underlying62 rfl rfl rfl inf60 (by decide) rfl) ?_) | (refine AL.rp rfl rfl (rp_field_ad Try.underlying62 rfl rfl rfl inf60 (by decide) rfl) ?_))
    (first | (refine AL.rd rfl rfl (rd_load_ref Try.underlying60 rfl rfl rfl rfl rfl rfl) ?_) | (refine AL.rd rfl rfl (rd_load_ad Try.underlying60 rfl rfl rfl rfl) ?_) | (refine AL.rd rfl rfl (rd_load_map Try.underlying60 rfl rfl rfl rfl rfl rfl (by assumption)) ?_))
    refine AL.rp rfl rfl (rp_assign rfl rfl) ?_
    refine AL.nil ?_
    try simp only [thenS, S.put]
    refine AW.seq ?_
    refine AW.region ?_
    refine AL.rp rfl rfl (rp_assign rfl rfl) ?_
    refine AL.nil ?_
    try simp only [thenS, S.put]
    refine AW.block ?_
    refine AW.loop (fun s' => ∃ (i : Nat) (A : List Ar), i ≤ la ∧ A = intoL sts p k ++ arcsTo p k (x.arcs.take i) ∧ s' = ⟨57, [(1, .i p), (2, .ref 2 0), (5, .own 100 4 A.length (decide (A.length = 0))), (6, .i k), (7, .d (arsD x.arcs)), (8, .i i)], [(2, ⟨24, [.i st, .d (stsD sts)], false, 0⟩), (100, ⟨74, A.flatMap arV2, decide (A.length = 0), 4⟩)], []⟩) (fun s' => la - s'.nat 8) ⟨_, ?_, 0, _, by omega, rfl, rfl⟩ ?_
    · have e : intoL sts p k ++ arcsTo p k (x.arcs.take 0) = intoL sts p k := by simp [arcsTo]
      rw [e]
      exact (Less.of rfl (by repeat (first | exact trivial | refine ⟨⟨_, rfl, Wk.refl _⟩, ?_⟩ | refine ⟨⟨_, rfl, Wk.nil _ _⟩, ?_⟩ | refine ⟨⟨_, rfl, Wk.junk _⟩, ?_⟩)) (by repeat (first | exact trivial | refine ⟨rfl, ?_⟩)) rfl)
    rintro s' ⟨i, A, hi, hA, rfl⟩
    have hAl : A.length ≤ 400 * k + la := by
      have h1 := arcsTo_len p k (x.arcs.take i)
      rw [hA, List.length_append]
      rw [List.length_take] at h1
      omega
    have hfl : (A.flatMap arV2).length = A.length * 4 := flat_len (sz := 4) (fun _ => rfl)
    by_cases hil : i < la
    · obtain ⟨y, hy⟩ := get_lt hla hil
      have hsn := arcsTo_snoc p k hy
      by_cases hyp : y.t = (p : Int)
      · rw [if_pos hyp] at hsn
        refine AW.seq ?_
        refine AW.seq ?_
        refine AW.region ?_
        refine AL.rp rfl rfl (rp_move rfl rfl) ?_
        refine AL.rp rfl rfl (rp_move rfl rfl) ?_
        (first | (refine AL.rp rfl rfl (rp_len_map Try.underlying60 rfl rfl (by assumption)) ?_) | (refine AL.rp rfl rfl (rp_len_own Try.underlying60 rfl rfl) ?_) | (refine AL.rp rfl rfl (rp_len_sl Try.underlying60 rfl rfl) ?_) | (refine AL.rp rfl rfl (rp_len_nil Try.underlying60 rfl rfl) ?_) | (refine AL.rp rfl rfl (rp_len_str Try.underlying60 rfl rfl) ?_))
        (first | (refine AL.rp rfl rfl (rp_lssT rfl rfl rfl (by first | assumption | omega)) ?_) | (refine AL.rp rfl rfl (rp_lssF rfl rfl rfl (by first | assumption | omega)) ?_) | (refine AL.rp rfl rfl (rp_lss rfl rfl rfl) ?_))
        refine AL.nil ?_
        try simp only [thenS, S.put]
        refine AW.condT rfl ?_
        refine AW.skip ?_
        try simp only [thenS]
        refine AW.seq ?_
        refine AW.block ?_
        refine AW.seq ?_
        refine AW.region ?_
        refine AL.rp rfl rfl (rp_move rfl rfl) ?_
        refine AL.rp rfl rfl (rp_move rfl rfl) ?_
        (first | (refine AL.rp rfl rfl (rp_index_map Try.underlying60 inf74 rfl rfl rfl rfl (by assumption)) ?_) | (refine AL.rp rfl rfl (rp_index_own Try.underlying60 inf74 rfl rfl rfl rfl (by first | assumption | omega)) ?_) | (refine AL.rp rfl rfl (rd_index_sl Try.underlying60 inf74 rfl rfl rfl rfl (by assumption)) ?_) | (refine AL.rp rfl rfl (rp_index_own Try.underlying60 inf74 rfl rfl rfl (by omega) (by omega)) ?_))
        (first | (refine AL.rp rfl rfl (rp_field_ref Try.underlying74 rfl rfl rfl inf3 (by decide) rfl) ?_) | (refine AL.rp rfl rfl (rp_field_ad Try.underlying74 rfl rfl rfl inf3 (by decide) rfl) ?_))
        (first | (refine AL.rd rfl rfl (rd_load_ref Try.underlying3 rfl rfl rfl rfl rfl rfl) ?_) | (refine AL.rd rfl rfl (rd_load_ad Try.underlying3 rfl rfl rfl rfl) ?_) | (refine AL.rd rfl rfl (rd_load_map Try.underlying3 rfl rfl rfl rfl rfl rfl (by assumption)) ?_))
        refine AL.rp rfl rfl (rp_move rfl rfl) ?_
        (first | (refine AL.rp rfl rfl (rp_eqlT rfl rfl rfl (by first | assumption | omega)) ?_) | (refine AL.rp rfl rfl (rp_eqlF rfl rfl rfl (by first | assumption | omega)) ?_) | (refine AL.rp rfl rfl (rp_eql rfl rfl rfl) ?_))
        refine AL.nil ?_
        try simp only [thenS, S.put]
        refine AW.condT rfl ?_
        refine AW.draw [(0, true), (1, true), (2, true), (3, true), (4, true), (5, true), (6, true), (7, true), (8, true), (9, true), (10, true), (11, true), (12, true), (13, true), (14, true), (15, true), (16, true), (17, true), (18, true), (19, false), (20, false), (21, false)] (fun i => !([20, 21] : List Nat).contains i) 22 (by kernel_rfl) (by kernel_rfl) rfl (by kernel_rfl) ?_
        refine AD1.rp rfl rfl rfl (fun _ _ h => h) (rp_move rfl rfl) ?_
        refine AD1.rp rfl rfl rfl (fun _ _ h => h) (rp_move rfl rfl) ?_
        refine AD1.rp rfl rfl rfl (fun _ _ h => h) (rp_move rfl rfl) ?_
        (first | (refine AD1.rp rfl rfl rfl (fun _ _ h => h) (rp_index_map Try.underlying60 inf74 rfl rfl rfl rfl (by assumption)) ?_) | (refine AD1.rp rfl rfl rfl (fun _ _ h => h) (rp_index_own Try.underlying60 inf74 rfl rfl rfl rfl (by first | assumption | omega)) ?_) | (refine AD1.rp rfl rfl rfl (fun _ _ h => h) (rd_index_sl Try.underlying60 inf74 rfl rfl rfl rfl (by assumption)) ?_) | (refine AD1.rp rfl rfl rfl (fun _ _ h => h) (rp_index_own Try.underlying60 inf74 rfl rfl rfl (by omega) (by omega)) ?_))
        (first | (refine AD1.rp rfl rfl rfl (fun _ _ h => h) (rp_field_ref Try.underlying74 rfl rfl rfl inf3 (by decide) rfl) ?_) | (refine AD1.rp rfl rfl rfl (fun _ _ h => h) (rp_field_ad Try.underlying74 rfl rfl rfl inf3 (by decide) rfl) ?_))
        (first | (refine AD1.rd rfl rfl rfl (fun _ _ h => h) (rd_load_ref Try.underlying3 rfl rfl rfl rfl rfl rfl) ?_) | (refine AD1.rd rfl rfl rfl (fun _ _ h => h) (rd_load_ad Try.underlying3 rfl rfl rfl rfl) ?_) | (refine AD1.rd rfl rfl rfl (fun _ _ h => h) (rd_load_map Try.underlying3 rfl rfl rfl rfl rfl rfl (by assumption)) ?_))
        refine AD1.rp rfl rfl rfl (fun _ _ h => h) (rp_move rfl rfl) ?_
        refine AD1.rp rfl rfl rfl (fun _ _ h => h) (rp_move rfl rfl) ?_
        (first | (refine AD1.rp rfl rfl rfl (fun _ _ h => h) (rp_index_map Try.underlying60 inf74 rfl rfl rfl rfl (by assumption)) ?_) | (refine AD1.rp rfl rfl rfl (fun _ _ h => h) (rp_index_own Try.underlying60 inf74 rfl rfl rfl rfl (by first | assumption | omega)) ?_) | (refine AD1.rp rfl rfl rfl (fun _ _ h => h) (rd_index_sl Try.underlying60 inf74 rfl rfl rfl rfl (by assumption)) ?_) | (refine AD1.rp rfl rfl rfl (fun _ _ h => h) (rp_index_own Try.underlying60 inf74 rfl rfl rfl (by omega) (by omega)) ?_))
        (first | (refine AD1.rp rfl rfl rfl (fun _ _ h => h) (rp_field_ref Try.underlying74 rfl rfl rfl inf3 (by decide) rfl) ?_) | (refine AD1.rp rfl rfl rfl (fun _ _ h => h) (rp_field_ad Try.underlying74 rfl rfl rfl inf3 (by decide) rfl) ?_))
        (first | (refine AD1.rd rfl rfl rfl (fun _ _ h => h) (rd_load_ref Try.underlying3 rfl rfl rfl rfl rfl rfl) ?_) | (refine AD1.rd rfl rfl rfl (fun _ _ h => h) (rd_load_ad Try.underlying3 rfl rfl rfl rfl) ?_) | (refine AD1.rd rfl rfl rfl (fun _ _ h => h) (rd_load_map Try.underlying3 rfl rfl rfl rfl rfl rfl (by assumption)) ?_))
        refine AD1.rp rfl rfl rfl (fun _ _ h => h) (rp_move rfl rfl) ?_
        refine AD1.rp rfl rfl rfl (fun _ _ h => h) (rp_move rfl rfl) ?_
        (first | (refine AD1.rp rfl rfl rfl (fun _ _ h => h) (rp_index_map Try.underlying60 inf74 rfl rfl rfl rfl (by assumption)) ?_) | (refine AD1.rp rfl rfl rfl (fun _ _ h => h) (rp_index_own Try.underlying60 inf74 rfl rfl rfl rfl (by first | assumption | omega)) ?_) | (refine AD1.rp rfl rfl rfl (fun _ _ h => h) (rd_index_sl Try.underlying60 inf74 rfl rfl rfl rfl (by assumption)) ?_) | (refine AD1.rp rfl rfl rfl (fun _ _ h => h) (rp_index_own Try.underlying60 inf74 rfl rfl rfl (by omega) (by omega)) ?_))
        (first | (refine AD1.rp rfl rfl rfl (fun _ _ h => h) (rp_field_ref Try.underlying74 rfl rfl rfl inf3 (by decide) rfl) ?_) | (refine AD1.rp rfl rfl rfl (fun _ _ h => h) (rp_field_ad Try.underlying74 rfl rfl rfl inf3 (by decide) rfl) ?_))
        (first | (refine AD1.rd rfl rfl rfl (fun _ _ h => h) (rd_load_ref Try.underlying3 rfl rfl rfl rfl rfl rfl) ?_) | (refine AD1.rd rfl rfl rfl (fun _ _ h => h) (rd_load_ad Try.underlying3 rfl rfl rfl rfl) ?_) | (refine AD1.rd rfl rfl rfl (fun _ _ h => h) (rd_load_map Try.underlying3 rfl rfl rfl rfl rfl rfl (by assumption)) ?_))
        refine AD1.rp rfl rfl rfl (fun _ _ h => h) (rp_move rfl rfl) ?_
        refine AD1.rp rfl rfl rfl (fun _ _ h => h) (rp_add rfl rfl rfl (by omega)) ?_
        refine AD1.rp rfl rfl rfl (fun _ _ h => h) (rp_build (vs := [(0, _), (1, _), (2, _), (3, _)]) (zs := [.d (.p (.int .i64 0)), .d (.p (.int .i64 0)), .d (.p (.int .i64 0)), .d (.p (.int .i64 0))]) pl74 inf74 rfl rfl rfl rfl) ?_
        refine AD1.go ?_
        refine AD2.sm rfl rfl (sm_slice (vs := [(0, _)]) (zs := [.d (.p (.int .i64 0)), .d (.p (.int .i64 0)), .d (.p (.int .i64 0)), .d (.p (.int .i64 0))]) 54 Try.underlying60 inf74 rfl rfl (by decide) (by decide) (by decide) rfl rfl rfl rfl (by first | rfl | simp [S.clean, S.put, S.newObj, S.forget, V.has, V.hasL, junkIf, setL, V.cs, hasL_i, hasL_b, hasL_s, hasL_n, hasL_rep, hasL_flat, hasL_append, -List.map_set]) (by first | rfl | simp [S.clean, S.put, S.newObj, S.forget, V.has, V.hasL, junkIf, setL, V.cs, hasL_i, hasL_b, hasL_s, hasL_n, hasL_rep, hasL_flat, hasL_append, -List.map_set]) rfl) ?_
        refine AD2.go ?_
        refine AD3.st rfl rfl rfl (st_appendF Try.underlying60 inf74 rfl (by decide) rfl rfl rfl rfl rfl rfl (by first | assumption | rfl | (simp; done)) (by first | rfl | simp [S.clean, S.put, S.newObj, S.forget, V.has, V.hasL, junkIf, setL, V.cs, hasL_i, hasL_b, hasL_s, hasL_n, hasL_rep, hasL_flat, hasL_append, -List.map_set]) rfl rfl rfl rfl rfl (by first | rfl | simp [S.clean, S.put, S.newObj, S.forget, V.has, V.hasL, junkIf, setL, V.cs, hasL_i, hasL_b, hasL_s, hasL_n, hasL_rep, hasL_flat, hasL_append, -List.map_set]) rfl (by decide) (by omega) (by omega) rfl) ?_
        simp only [S.forget, S.put, S.newObj, junkIf, V.has, V.hasL, hasL_i, hasL_b, hasL_s, hasL_d, hasL_n, hasL_rep, hasL_flat, hasL_append, List.map_cons, List.map_nil, List.filter_cons, List.filter_nil, Nat.reduceBNe, Nat.reduceBEq, eq_self, bne_self_eq_false,  Bool.not_true, Bool.not_false, Bool.or_false, Bool.or_true, Bool.false_or, Bool.true_or, if_true, if_false, Bool.false_eq_true, ite_true, ite_false, ↓reduceIte, beq_self_eq_true, Nat.reduceEqDiff]
        refine AD3.rp1 rfl rfl rfl rfl (rp_assign rfl rfl) ?_
        refine AD3.nil ?_
        try simp only [thenS, S.put, S.newObj, setL, V.cs, List.length_cons, List.length_nil, List.take_succ_cons, List.take_zero, List.drop_succ_cons, List.drop_zero, List.drop_nil, List.nil_append, List.cons_append, List.append_nil, Nat.zero_add, Nat.reduceAdd, List.map_cons, List.map_nil, List.set_cons_zero, List.set_cons_succ]
        refine AW.region ?_
        refine AL.rp rfl rfl (rp_move rfl rfl) ?_
        refine AL.rp rfl rfl (rp_add rfl rfl rfl (by omega)) ?_
        refine AL.rp rfl rfl (rp_assign rfl rfl) ?_
        refine AL.nil ?_
        try simp only [thenS, S.put]
        refine ⟨_, ?_, ⟨i + 1, A ++ [rvA k y], by omega, by rw [hA, hsn, List.append_assoc], rfl⟩, ?_⟩
        · simp only [List.flatMap_append, List.flatMap_cons, List.flatMap_nil, List.append_nil, List.length_append, List.length_cons, List.length_nil, Nat.zero_add]
          exact (Less.of rfl (by repeat (first | exact trivial | refine ⟨⟨_, rfl, Wk.refl _⟩, ?_⟩ | refine ⟨⟨_, rfl, Wk.nil _ _⟩, ?_⟩ | refine ⟨⟨_, rfl, Wk.junk _⟩, ?_⟩)) (by repeat (first | exact trivial | refine ⟨rfl, ?_⟩)) rfl)
        · simp [S.nat, fnd]; omega
      · rw [if_neg hyp, List.append_nil] at hsn
        refine AW.seq ?_
        refine AW.seq ?_
        refine AW.region ?_
        refine AL.rp rfl rfl (rp_move rfl rfl) ?_
        refine AL.rp rfl rfl (rp_move rfl rfl) ?_
        (first | (refine AL.rp rfl rfl (rp_len_map Try.underlying60 rfl rfl (by assumption)) ?_) | (refine AL.rp rfl rfl (rp_len_own Try.underlying60 rfl rfl) ?_) | (refine AL.rp rfl rfl (rp_len_sl Try.underlying60 rfl rfl) ?_) | (refine AL.rp rfl rfl (rp_len_nil Try.underlying60 rfl rfl) ?_) | (refine AL.rp rfl rfl (rp_len_str Try.underlying60 rfl rfl) ?_))
        (first | (refine AL.rp rfl rfl (rp_lssT rfl rfl rfl (by first | assumption | omega)) ?_) | (refine AL.rp rfl rfl (rp_lssF rfl rfl rfl (by first | assumption | omega)) ?_) | (refine AL.rp rfl rfl (rp_lss rfl rfl rfl) ?_))
        refine AL.nil ?_
        try simp only [thenS, S.put]
        refine AW.condT rfl ?_
        refine AW.skip ?_
        try simp only [thenS]
        refine AW.seq ?_
        refine AW.block ?_
        refine AW.seq ?_
        refine AW.region ?_
        refine AL.rp rfl rfl (rp_move rfl rfl) ?_
        refine AL.rp rfl rfl (rp_move rfl rfl) ?_
        (first | (refine AL.rp rfl rfl (rp_index_map Try.underlying60 inf74 rfl rfl rfl rfl (by assumption)) ?_) | (refine AL.rp rfl rfl (rp_index_own Try.underlying60 inf74 rfl rfl rfl rfl (by first | assumption | omega)) ?_) | (refine AL.rp rfl rfl (rd_index_sl Try.underlying60 inf74 rfl rfl rfl rfl (by assumption)) ?_) | (refine AL.rp rfl rfl (rp_index_own Try.underlying60 inf74 rfl rfl rfl (by omega) (by omega)) ?_))
        (first | (refine AL.rp rfl rfl (rp_field_ref Try.underlying74 rfl rfl rfl inf3 (by decide) rfl) ?_) | (refine AL.rp rfl rfl (rp_field_ad Try.underlying74 rfl rfl rfl inf3 (by decide) rfl) ?_))
        (first | (refine AL.rd rfl rfl (rd_load_ref Try.underlying3 rfl rfl rfl rfl rfl rfl) ?_) | (refine AL.rd rfl rfl (rd_load_ad Try.underlying3 rfl rfl rfl rfl) ?_) | (refine AL.rd rfl rfl (rd_load_map Try.underlying3 rfl rfl rfl rfl rfl rfl (by assumption)) ?_))
        refine AL.rp rfl rfl (rp_move rfl rfl) ?_
        (first | (refine AL.rp rfl rfl (rp_eqlT rfl rfl rfl (by first | assumption | omega)) ?_) | (refine AL.rp rfl rfl (rp_eqlF rfl rfl rfl (by first | assumption | omega)) ?_) | (refine AL.rp rfl rfl (rp_eql rfl rfl rfl) ?_))
        refine AL.nil ?_
        try simp only [thenS, S.put]
        refine AW.condF rfl ?_
        refine AW.skip ?_
        try simp only [thenS]
        refine AW.region ?_
        refine AL.rp rfl rfl (rp_move rfl rfl) ?_
        refine AL.rp rfl rfl (rp_add rfl rfl rfl (by omega)) ?_
        refine AL.rp rfl rfl (rp_assign rfl rfl) ?_
        refine AL.nil ?_
        try simp only [thenS, S.put]
        refine ⟨_, ?_, ⟨i + 1, A, by omega, by rw [hA, hsn], rfl⟩, ?_⟩
        · exact (Less.of rfl (by repeat (first | exact trivial | refine ⟨⟨_, rfl, Wk.refl _⟩, ?_⟩ | refine ⟨⟨_, rfl, Wk.nil _ _⟩, ?_⟩ | refine ⟨⟨_, rfl, Wk.junk _⟩, ?_⟩)) (by repeat (first | exact trivial | refine ⟨rfl, ?_⟩)) rfl)
        · simp [S.nat, fnd]; omega
    · have hA' : A = intoL sts p (k + 1) := by rw [hA, List.take_of_length_le (by omega), intoL, stAt_of hx]
      subst hA'
      refine AW.seq ?_
      refine AW.seq ?_
      refine AW.region ?_
      refine AL.rp rfl rfl (rp_move rfl rfl) ?_
      refine AL.rp rfl rfl (rp_move rfl rfl) ?_
      (first | (refine AL.rp rfl rfl (rp_len_map Try.underlying60 rfl rfl (by assumption)) ?_) | (refine AL.rp rfl rfl (rp_len_own Try.underlying60 rfl rfl) ?_) | (refine AL.rp rfl rfl (rp_len_sl Try.underlying60 rfl rfl) ?_) | (refine AL.rp rfl rfl (rp_len_nil Try.underlying60 rfl rfl) ?_) | (refine AL.rp rfl rfl (rp_len_str Try.underlying60 rfl rfl) ?_))
      (first | (refine AL.rp rfl rfl (rp_lssT rfl rfl rfl (by first | assumption | omega)) ?_) | (refine AL.rp rfl rfl (rp_lssF rfl rfl rfl (by first | assumption | omega)) ?_) | (refine AL.rp rfl rfl (rp_lss rfl rfl rfl) ?_))
      refine AL.nil ?_
      try simp only [thenS, S.put]
      refine AW.condF rfl ?_
      refine AW.exit ?_
      try simp only [thenS, inBlockS, ↓reduceIte, Nat.reduceEqDiff]
      refine AW.region ?_
      refine AL.rp rfl rfl (rp_move rfl rfl) ?_
      refine AL.rp rfl rfl (rp_add rfl rfl rfl (by omega)) ?_
      refine AL.rp rfl rfl (rp_assign rfl rfl) ?_
      refine AL.nil ?_
      try simp only [thenS, S.put]
      refine ⟨_, ?_, ⟨k + 1, by omega, rfl⟩, ?_⟩
      · exact (Less.of rfl (by repeat (first | exact trivial | refine ⟨⟨_, rfl, Wk.refl _⟩, ?_⟩ | refine ⟨⟨_, rfl, Wk.nil _ _⟩, ?_⟩ | refine ⟨⟨_, rfl, Wk.junk _⟩, ?_⟩)) (by repeat (first | exact trivial | refine ⟨rfl, ?_⟩)) rfl)
      · simp [S.nat, fnd]; omega
  · obtain rfl : k = n := by omega
    have hik := hil k
    refine AW.seq ?_
    refine AW.seq ?_
    refine AW.region ?_
    refine AL.rp rfl rfl (rp_move rfl rfl) ?_
    (first | (refine AL.rp rfl rfl (rp_field_ref Try.underlying24 rfl rfl rfl inf22 (by decide) rfl) ?_) | (refine AL.rp rfl rfl (rp_field_ad Try.underlying24 rfl rfl rfl inf22 (by decide) rfl) ?_))
    (first | (refine AL.rd rfl rfl (rd_load_ref Try.underlying22 rfl rfl rfl rfl rfl rfl) ?_) | (refine AL.rd rfl rfl (rd_load_ad Try.underlying22 rfl rfl rfl rfl) ?_) | (refine AL.rd rfl rfl (rd_load_map Try.underlying22 rfl rfl rfl rfl rfl rfl (by assumption)) ?_))
    (first | (refine AL.rp rfl rfl (rp_len_map Try.underlying22 rfl rfl (by assumption)) ?_) | (refine AL.rp rfl rfl (rp_len_own Try.underlying22 rfl rfl) ?_) | (refine AL.rp rfl rfl (rp_len_sl Try.underlying22 rfl rfl) ?_) | (refine AL.rp rfl rfl (rp_len_nil Try.underlying22 rfl rfl) ?_) | (refine AL.rp rfl rfl (rp_len_str Try.underlying22 rfl rfl) ?_))
    (first | (refine AL.rp rfl rfl (rp_lssT rfl rfl rfl (by first | assumption | omega)) ?_) | (refine AL.rp rfl rfl (rp_lssF rfl rfl rfl (by first | assumption | omega)) ?_) | (refine AL.rp rfl rfl (rp_lss rfl rfl rfl) ?_))
    refine AL.nil ?_
    try simp only [thenS, S.put]
    refine AW.condF rfl ?_
    refine AW.exit ?_
    try simp only [thenS, inBlockS, ↓reduceIte, Nat.reduceEqDiff]
    refine AW.seq ?_
    refine AW.freeze 5 32 ((intoL sts p k).map arD) rfl rfl rfl (by rw [List.length_map]) (by omega) (rowsF (enc := arD) (sz := 4) (l := intoL sts p k) (fun _ => rfl) rfl) ?_
    refine AW.region ?_
    refine AL.rp rfl rfl (rp_move rfl rfl) ?_
    refine AL.rp rfl rfl (rp_assign rfl rfl) ?_
    refine AL.nil ?_
    try simp only [thenS, S.put]
    refine AW.ret ?_
    exact ⟨[_], ⟨rfl, trivial⟩, rfl, by simp [tupOf, V.pure, V.has]⟩
theorem am_Fits_ok {m : Mach} (hs : m.states.length ≤ 1000000) (ha : arcN m.states ≤ 1000000000) (h : ¬ (60 < m.states.length ∨ 400 < arcN m.states)) : Fn Try.prog 53 [mV m] (fun v => v = .tup [mV m, .i 0]) := (am_Fits m hs ha).mono fun v hv => by
  rcases hv with ⟨h1, _⟩ | ⟨_, h1⟩
  · exact absurd h1 h
  · exact h1
theorem am_Fits_no {m : Mach} (hs : m.states.length ≤ 1000000) (ha : arcN m.states ≤ 1000000000) (h : 60 < m.states.length ∨ 400 < arcN m.states) : Fn Try.prog 53 [mV m] (fun v => v = .tup [.agg [.i 0, .nil], .i 5]) := (am_Fits m hs ha).mono fun v hv => by
  rcases hv with ⟨_, h1⟩ | ⟨h1, _⟩
  · exact h1
  · exact absurd h h1

theorem am_Reversed0 (m : Mach) : Fn Try.prog 20 [mV m] (fun v => resP (revE m) (revR m) v) := by
  by_cases h0 : machE m = 0
  · obtain ⟨h60, h400, hst, hz⟩ := machE_zero h0
    obtain ⟨ha1, ha2⟩ := rev_arcN h0
    have hE : revE m = if 60 < (revM m).states.length ∨ 400 < arcN (revM m).states then 5 else 0 := by unfold revE; rw [if_neg (by simp [h0])]
    have hR : revE m = 0 → revR m = revM m := fun h => by unfold revR; rw [if_pos h]
    obtain ⟨e, he⟩ : ∃ e, revE m = e := ⟨_, rfl⟩
    obtain ⟨R, hRd⟩ : ∃ R, revR m = R := ⟨_, rfl⟩
    rw [he] at hE hR ⊢
    rw [hRd] at hR ⊢
    clear he hRd
    obtain ⟨st, sts⟩ := m
    have hM : revM ⟨st, sts⟩ = ⟨0, revL (firstL sts sts.length) (fun p => if st = (p : Int) then 0 else 1000000001) (fun p => intoL sts p sts.length) sts.length⟩ := rfl
    rw [hM] at ha1 ha2 hE hR
    simp only at h60 h400 hst hz ha1 ha2 hE
    have hal4 : ∀ x ∈ sts, x.arcs.length ≤ 400 := fun x hx => Nat.le_trans (arcN_mem sts x hx) h400
    have hinto : ∀ p : Nat, Fn Try.prog 57 [mV ⟨st, sts⟩, .i (p : Int)] (fun v => v = .d (arsD (intoL sts p sts.length))) := fun p => am_into ⟨st, sts⟩ p h0
    obtain ⟨n, hn⟩ : ∃ n, sts.length = n := ⟨_, rfl⟩
    rw [hn] at h60 hst hz ha1 ha2 hE hR hinto
    refine Fn.intro (n := 79) ⟨Try.func20, rfl, rfl, rfl, rfl⟩ (by simp [V.pure, V.has, V.hasL]) (by simp) fun w0 out => ?_
    refine AW.seq ?_
    refine AW.region ?_
    refine AL.sm rfl (sm_box 1 rfl rfl rfl (by first | rfl | simp [S.clean, S.put, S.newObj, S.forget, V.has, V.hasL, junkIf, setL, V.cs, hasL_i, hasL_b, hasL_s, hasL_n, hasL_rep, hasL_flat, hasL_append, -List.map_set]) rfl) ?_
    refine AL.sm rfl (sm_alloc (l := [.d (.p (.int .i64 0)), .d (.p (.slice none 0 0))]) 2 inf24 rfl (by first | rfl | simp [S.clean, S.put, S.newObj, S.forget, V.has, V.hasL, junkIf, setL, V.cs, hasL_i, hasL_b, hasL_s, hasL_n, hasL_rep, hasL_flat, hasL_append, -List.map_set]) rfl rfl) ?_
    refine AL.rp rfl rfl (rp_assign rfl rfl) ?_
    refine AL.nil ?_
    try simp only [thenS, S.put, S.newObj, setL, V.cs, List.length_cons, List.length_nil, List.take_succ_cons, List.take_zero, List.drop_succ_cons, List.drop_zero, List.drop_nil, List.nil_append, List.cons_append, List.append_nil, Nat.zero_add, Nat.reduceAdd, List.map_cons, List.map_nil, List.set_cons_zero, List.set_cons_succ, enum]
    refine AW.seq ?_
    refine AW.region ?_
    (first | (refine AL.rd rfl rfl (rd_loads_ref Try.underlying24 rfl inf24 rfl rfl rfl rfl rfl rfl) ?_) | (refine AL.rd rfl rfl (rd_loads_ad Try.underlying24 rfl inf24 rfl rfl rfl rfl) ?_))
    refine AL.call (post := ?pc3) rfl (sm_call (args := [_]) ?hc3 ⟨Try.func50, rfl, rfl, rfl, rfl⟩ rfl rfl rfl rfl) ?_
    case hc3 => exact Fn.eqi (am_Fault ⟨st, sts⟩) h0
    rintro _ rfl -
    try dsimp only
    refine AL.rp rfl rfl (rp_assign rfl rfl) ?_
    refine AL.nil ?_
    try simp only [thenS, S.put, S.newObj, setL, V.cs, List.length_cons, List.length_nil, List.take_succ_cons, List.take_zero, List.drop_succ_cons, List.drop_zero, List.drop_nil, List.nil_append, List.cons_append, List.append_nil, Nat.zero_add, Nat.reduceAdd, List.map_cons, List.map_nil, List.set_cons_zero, List.set_cons_succ]
    refine AW.seq ?_
    refine AW.seq ?_
    refine AW.region ?_
    refine AL.rp rfl rfl (rp_move rfl rfl) ?_
    (first | (refine AL.rp rfl rfl (rp_neqT rfl rfl rfl (by first | assumption | omega)) ?_) | (refine AL.rp rfl rfl (rp_neqF rfl rfl rfl (by first | assumption | omega)) ?_) | (refine AL.rp rfl rfl (rp_neq rfl rfl rfl) ?_))
    refine AL.nil ?_
    try simp only [thenS, S.put]
    refine AW.condF rfl ?_
    refine AW.skip ?_
    try simp only [thenS]
    refine AW.seq ?_
    refine AW.region ?_
    refine AL.rp rfl rfl (rp_build (vs := [(0, _)]) (zs := [.d (.p (.int .i64 0)), .d (.p (.slice none 0 0))]) pl62 inf62 rfl rfl rfl rfl) ?_
    refine AL.sm rfl (sm_alloc (l := [.d (.p (.int .i64 0)), .d (.p (.slice none 0 0))]) 5 inf62 rfl (by first | rfl | simp [S.clean, S.put, S.newObj, S.forget, V.has, V.hasL, junkIf, setL, V.cs, hasL_i, hasL_b, hasL_s, hasL_n, hasL_rep, hasL_flat, hasL_append, -List.map_set]) rfl rfl) ?_
    refine AL.st rfl (st_store_any inf62 rfl rfl rfl rfl rfl rfl rfl rfl (by first | decide | (simp; omega)) rfl) ?_
    refine AL.nil ?_
    try simp only [thenS, S.put, S.newObj, setL, V.cs, List.length_cons, List.length_nil, List.take_succ_cons, List.take_zero, List.drop_succ_cons, List.drop_zero, List.drop_nil, List.nil_append, List.cons_append, List.append_nil, Nat.zero_add, Nat.reduceAdd, List.map_cons, List.map_nil, List.set_cons_zero, List.set_cons_succ]
    refine AW.seq ?_
    refine AW.seq ?_
    refine AW.adoptH 5 1 100 4 74 rfl rfl rfl (by simp [S.clean, V.has, V.hasL, V.cs, setL]) ?_
    refine AW.region ?_
    refine AL.rp rfl rfl (rp_assign rfl rfl) ?_
    refine AL.nil ?_
    try simp only [thenS, S.put]
    refine AW.block ?_
    refine AW.loop (fun s' => ∃ k : Nat, k ≤ n ∧ s' = ⟨79, [(1, .ref 1 0), (2, .ref 2 0), (5, .ref 5 0), (6, .i k)], [(1, ⟨24, [.i st, .d (stsD sts)], false, 0⟩), (2, ⟨24, [.i 0, .nil], false, 0⟩), (5, ⟨62, [.i 1000000001, .own 100 4 (firstL sts k).length (decide ((firstL sts k).length = 0))], false, 0⟩), (100, ⟨74, (firstL sts k).flatMap arV2, decide ((firstL sts k).length = 0), 4⟩)], []⟩) (fun s' => n - s'.nat 6) ⟨_, ?_, 0, by omega, rfl⟩ ?_
    · exact (Less.of rfl (by repeat (first | exact trivial | refine ⟨⟨_, rfl, Wk.refl _⟩, ?_⟩ | refine ⟨⟨_, rfl, Wk.nil _ _⟩, ?_⟩ | refine ⟨⟨_, rfl, Wk.junk _⟩, ?_⟩)) (by repeat (first | exact trivial | refine ⟨rfl, ?_⟩)) rfl)
    rintro s' ⟨k, hk, rfl⟩
    have hkl := firstL_len sts k
    have hfl : ((firstL sts k).flatMap arV2).length = (firstL sts k).length * 4 := flat_len (sz := 4) (fun _ => rfl)
    by_cases hlt : k < n
    · obtain ⟨x, hx⟩ := get_lt hn hlt
      have hsn := firstL_succ hx
      by_cases hf : x.fin = 1000000001
      · rw [if_pos hf, List.append_nil] at hsn
        refine AW.seq ?_
        refine AW.seq ?_
        refine AW.region ?_
        refine AL.rp rfl rfl (rp_move rfl rfl) ?_
        (first | (refine AL.rp rfl rfl (rp_field_ref Try.underlying24 rfl rfl rfl inf22 (by decide) rfl) ?_) | (refine AL.rp rfl rfl (rp_field_ad Try.underlying24 rfl rfl rfl inf22 (by decide) rfl) ?_))
        (first | (refine AL.rd rfl rfl (rd_load_ref Try.underlying22 rfl rfl rfl rfl rfl rfl) ?_) | (refine AL.rd rfl rfl (rd_load_ad Try.underlying22 rfl rfl rfl rfl) ?_) | (refine AL.rd rfl rfl (rd_load_map Try.underlying22 rfl rfl rfl rfl rfl rfl (by assumption)) ?_))
        (first | (refine AL.rp rfl rfl (rp_len_map Try.underlying22 rfl rfl (by assumption)) ?_) | (refine AL.rp rfl rfl (rp_len_own Try.underlying22 rfl rfl) ?_) | (refine AL.rp rfl rfl (rp_len_sl Try.underlying22 rfl rfl) ?_) | (refine AL.rp rfl rfl (rp_len_nil Try.underlying22 rfl rfl) ?_) | (refine AL.rp rfl rfl (rp_len_str Try.underlying22 rfl rfl) ?_))
        (first | (refine AL.rp rfl rfl (rp_lssT rfl rfl rfl (by first | assumption | omega)) ?_) | (refine AL.rp rfl rfl (rp_lssF rfl rfl rfl (by first | assumption | omega)) ?_) | (refine AL.rp rfl rfl (rp_lss rfl rfl rfl) ?_))
        refine AL.nil ?_
        try simp only [thenS, S.put]
        refine AW.condT rfl ?_
        refine AW.skip ?_
        try simp only [thenS]
        refine AW.seq ?_
        refine AW.block ?_
        refine AW.seq ?_
        refine AW.region ?_
        (first | (refine AL.rp rfl rfl (rp_field_ref Try.underlying24 rfl rfl rfl inf22 (by decide) rfl) ?_) | (refine AL.rp rfl rfl (rp_field_ad Try.underlying24 rfl rfl rfl inf22 (by decide) rfl) ?_))
        (first | (refine AL.rd rfl rfl (rd_load_ref Try.underlying22 rfl rfl rfl rfl rfl rfl) ?_) | (refine AL.rd rfl rfl (rd_load_ad Try.underlying22 rfl rfl rfl rfl) ?_) | (refine AL.rd rfl rfl (rd_load_map Try.underlying22 rfl rfl rfl rfl rfl rfl (by assumption)) ?_))
        refine AL.rp rfl rfl (rp_move rfl rfl) ?_
        (first | (refine AL.rp rfl rfl (rp_index_map Try.underlying22 inf62 rfl rfl rfl rfl (by assumption)) ?_) | (refine AL.rp rfl rfl (rp_index_own Try.underlying22 inf62 rfl rfl rfl rfl (by first | assumption | omega)) ?_) | (refine AL.rp rfl rfl (rd_index_sl Try.underlying22 inf62 rfl rfl rfl rfl (by assumption)) ?_) | (refine AL.rp rfl rfl (rp_index_own Try.underlying22 inf62 rfl rfl rfl (by omega) (by omega)) ?_))
        (first | (refine AL.rp rfl rfl (rp_field_ref Try.underlying62 rfl rfl rfl inf3 (by decide) rfl) ?_) | (refine AL.rp rfl rfl (rp_field_ad Try.underlying62 rfl rfl rfl inf3 (by decide) rfl) ?_))
        (first | (refine AL.rd rfl rfl (rd_load_ref Try.underlying3 rfl rfl rfl rfl rfl rfl) ?_) | (refine AL.rd rfl rfl (rd_load_ad Try.underlying3 rfl rfl rfl rfl) ?_) | (refine AL.rd rfl rfl (rd_load_map Try.underlying3 rfl rfl rfl rfl rfl rfl (by assumption)) ?_))
        (first | (refine AL.rp rfl rfl (rp_neqT rfl rfl rfl (by first | assumption | omega)) ?_) | (refine AL.rp rfl rfl (rp_neqF rfl rfl rfl (by first | assumption | omega)) ?_) | (refine AL.rp rfl rfl (rp_neq rfl rfl rfl) ?_))
        refine AL.nil ?_
        try simp only [thenS, S.put]
        refine AW.condF rfl ?_
        refine AW.skip ?_
        try simp only [thenS]
        refine AW.region ?_
        refine AL.rp rfl rfl (rp_move rfl rfl) ?_
        refine AL.rp rfl rfl (rp_add rfl rfl rfl (by omega)) ?_
        refine AL.rp rfl rfl (rp_assign rfl rfl) ?_
        refine AL.nil ?_
        try simp only [thenS, S.put]
        refine ⟨_, ?_, ⟨k + 1, by omega, rfl⟩, ?_⟩
        · rw [hsn]; exact (Less.of rfl (by repeat (first | exact trivial | refine ⟨⟨_, rfl, Wk.refl _⟩, ?_⟩ | refine ⟨⟨_, rfl, Wk.nil _ _⟩, ?_⟩ | refine ⟨⟨_, rfl, Wk.junk _⟩, ?_⟩)) (by repeat (first | exact trivial | refine ⟨rfl, ?_⟩)) rfl)
        · simp [S.nat, fnd]; omega
      · rw [if_neg hf] at hsn
        refine AW.seq ?_
        refine AW.seq ?_
        refine AW.region ?_
        refine AL.rp rfl rfl (rp_move rfl rfl) ?_
        (first | (refine AL.rp rfl rfl (rp_field_ref Try.underlying24 rfl rfl rfl inf22 (by decide) rfl) ?_) | (refine AL.rp rfl rfl (rp_field_ad Try.underlying24 rfl rfl rfl inf22 (by decide) rfl) ?_))
        (first | (refine AL.rd rfl rfl (rd_load_ref Try.underlying22 rfl rfl rfl rfl rfl rfl) ?_) | (refine AL.rd rfl rfl (rd_load_ad Try.underlying22 rfl rfl rfl rfl) ?_) | (refine AL.rd rfl rfl (rd_load_map Try.underlying22 rfl rfl rfl rfl rfl rfl (by assumption)) ?_))
        (first | (refine AL.rp rfl rfl (rp_len_map Try.underlying22 rfl rfl (by assumption)) ?_) | (refine AL.rp rfl rfl (rp_len_own Try.underlying22 rfl rfl) ?_) | (refine AL.rp rfl rfl (rp_len_sl Try.underlying22 rfl rfl) ?_) | (refine AL.rp rfl rfl (rp_len_nil Try.underlying22 rfl rfl) ?_) | (refine AL.rp rfl rfl (rp_len_str Try.underlying22 rfl rfl) ?_))
        (first | (refine AL.rp rfl rfl (rp_lssT rfl rfl rfl (by first | assumption | omega)) ?_) | (refine AL.rp rfl rfl (rp_lssF rfl rfl rfl (by first | assumption | omega)) ?_) | (refine AL.rp rfl rfl (rp_lss rfl rfl rfl) ?_))
        refine AL.nil ?_
        try simp only [thenS, S.put]
        refine AW.condT rfl ?_
        refine AW.skip ?_
        try simp only [thenS]
        refine AW.seq ?_
        refine AW.block ?_
        refine AW.seq ?_
        refine AW.region ?_
        (first | (refine AL.rp rfl rfl (rp_field_ref Try.underlying24 rfl rfl rfl inf22 (by decide) rfl) ?_) | (refine AL.rp rfl rfl (rp_field_ad Try.underlying24 rfl rfl rfl inf22 (by decide) rfl) ?_))
        (first | (refine AL.rd rfl rfl (rd_load_ref Try.underlying22 rfl rfl rfl rfl rfl rfl) ?_) | (refine AL.rd rfl rfl (rd_load_ad Try.underlying22 rfl rfl rfl rfl) ?_) | (refine AL.rd rfl rfl (rd_load_map Try.underlying22 rfl rfl rfl rfl rfl rfl (by assumption)) ?_))
        refine AL.rp rfl rfl (rp_move rfl rfl) ?_
        (first | (refine AL.rp rfl rfl (rp_index_map Try.underlying22 inf62 rfl rfl rfl rfl (by assumption)) ?_) | (refine AL.rp rfl rfl (rp_index_own Try.underlying22 inf62 rfl rfl rfl rfl (by first | assumption | omega)) ?_) | (refine AL.rp rfl rfl (rd_index_sl Try.underlying22 inf62 rfl rfl rfl rfl (by assumption)) ?_) | (refine AL.rp rfl rfl (rp_index_own Try.underlying22 inf62 rfl rfl rfl (by omega) (by omega)) ?_))
        (first | (refine AL.rp rfl rfl (rp_field_ref Try.underlying62 rfl rfl rfl inf3 (by decide) rfl) ?_) | (refine AL.rp rfl rfl (rp_field_ad Try.underlying62 rfl rfl rfl inf3 (by decide) rfl) ?_))
        (first | (refine AL.rd rfl rfl (rd_load_ref Try.underlying3 rfl rfl rfl rfl rfl rfl) ?_) | (refine AL.rd rfl rfl (rd_load_ad Try.underlying3 rfl rfl rfl rfl) ?_) | (refine AL.rd rfl rfl (rd_load_map Try.underlying3 rfl rfl rfl rfl rfl rfl (by assumption)) ?_))
        (first | (refine AL.rp rfl rfl (rp_neqT rfl rfl rfl (by first | assumption | omega)) ?_) | (refine AL.rp rfl rfl (rp_neqF rfl rfl rfl (by first | assumption | omega)) ?_) | (refine AL.rp rfl rfl (rp_neq rfl rfl rfl) ?_))
        refine AL.nil ?_
        try simp only [thenS, S.put]
        refine AW.condT rfl ?_
        refine AW.draw [(0, true), (1, true), (2, true), (3, true), (4, true), (5, true), (6, true), (7, true), (8, true), (9, true), (10, true), (11, false), (12, false), (13, false), (14, false)] (fun i => !([12, 13, 14] : List Nat).contains i) 15 (by kernel_rfl) (by kernel_rfl) rfl (by kernel_rfl) ?_
        (first | (refine AD1.rp rfl rfl rfl (fun _ _ h => h) (rp_field_ref Try.underlying62 rfl rfl rfl inf60 (by decide) rfl) ?_) | (refine AD1.rp rfl rfl rfl (fun _ _ h => h) (rp_field_ad Try.underlying62 rfl rfl rfl inf60 (by decide) rfl) ?_))
        (first | (refine AD1.rd rfl rfl rfl (fun _ _ h => h) (rd_load_ref Try.underlying60 rfl rfl rfl rfl rfl rfl) ?_) | (refine AD1.rd rfl rfl rfl (fun _ _ h => h) (rd_load_ad Try.underlying60 rfl rfl rfl rfl) ?_) | (refine AD1.rd rfl rfl rfl (fun _ _ h => h) (rd_load_map Try.underlying60 rfl rfl rfl rfl rfl rfl (by assumption)) ?_))
        (first | (refine AD1.rp rfl rfl rfl (fun _ _ h => h) (rp_field_ref Try.underlying24 rfl rfl rfl inf22 (by decide) rfl) ?_) | (refine AD1.rp rfl rfl rfl (fun _ _ h => h) (rp_field_ad Try.underlying24 rfl rfl rfl inf22 (by decide) rfl) ?_))
        (first | (refine AD1.rd rfl rfl rfl (fun _ _ h => h) (rd_load_ref Try.underlying22 rfl rfl rfl rfl rfl rfl) ?_) | (refine AD1.rd rfl rfl rfl (fun _ _ h => h) (rd_load_ad Try.underlying22 rfl rfl rfl rfl) ?_) | (refine AD1.rd rfl rfl rfl (fun _ _ h => h) (rd_load_map Try.underlying22 rfl rfl rfl rfl rfl rfl (by assumption)) ?_))
        refine AD1.rp rfl rfl rfl (fun _ _ h => h) (rp_move rfl rfl) ?_
        (first | (refine AD1.rp rfl rfl rfl (fun _ _ h => h) (rp_index_map Try.underlying22 inf62 rfl rfl rfl rfl (by assumption)) ?_) | (refine AD1.rp rfl rfl rfl (fun _ _ h => h) (rp_index_own Try.underlying22 inf62 rfl rfl rfl rfl (by first | assumption | omega)) ?_) | (refine AD1.rp rfl rfl rfl (fun _ _ h => h) (rd_index_sl Try.underlying22 inf62 rfl rfl rfl rfl (by assumption)) ?_) | (refine AD1.rp rfl rfl rfl (fun _ _ h => h) (rp_index_own Try.underlying22 inf62 rfl rfl rfl (by omega) (by omega)) ?_))
        (first | (refine AD1.rp rfl rfl rfl (fun _ _ h => h) (rp_field_ref Try.underlying62 rfl rfl rfl inf3 (by decide) rfl) ?_) | (refine AD1.rp rfl rfl rfl (fun _ _ h => h) (rp_field_ad Try.underlying62 rfl rfl rfl inf3 (by decide) rfl) ?_))
        (first | (refine AD1.rd rfl rfl rfl (fun _ _ h => h) (rd_load_ref Try.underlying3 rfl rfl rfl rfl rfl rfl) ?_) | (refine AD1.rd rfl rfl rfl (fun _ _ h => h) (rd_load_ad Try.underlying3 rfl rfl rfl rfl) ?_) | (refine AD1.rd rfl rfl rfl (fun _ _ h => h) (rd_load_map Try.underlying3 rfl rfl rfl rfl rfl rfl (by assumption)) ?_))
        refine AD1.rp rfl rfl rfl (fun _ _ h => h) (rp_move rfl rfl) ?_
        refine AD1.rp rfl rfl rfl (fun _ _ h => h) (rp_add rfl rfl rfl (by omega)) ?_
        refine AD1.rp rfl rfl rfl (fun _ _ h => h) (rp_build (vs := [(2, _), (3, _)]) (zs := [.d (.p (.int .i64 0)), .d (.p (.int .i64 0)), .d (.p (.int .i64 0)), .d (.p (.int .i64 0))]) pl74 inf74 rfl rfl rfl rfl) ?_
        refine AD1.go ?_
        refine AD2.sm rfl rfl (sm_slice (vs := [(0, _)]) (zs := [.d (.p (.int .i64 0)), .d (.p (.int .i64 0)), .d (.p (.int .i64 0)), .d (.p (.int .i64 0))]) 44 Try.underlying60 inf74 rfl rfl (by decide) (by decide) (by decide) rfl rfl rfl rfl (by first | rfl | simp [S.clean, S.put, S.newObj, S.forget, V.has, V.hasL, junkIf, setL, V.cs, hasL_i, hasL_b, hasL_s, hasL_n, hasL_rep, hasL_flat, hasL_append, -List.map_set]) (by first | rfl | simp [S.clean, S.put, S.newObj, S.forget, V.has, V.hasL, junkIf, setL, V.cs, hasL_i, hasL_b, hasL_s, hasL_n, hasL_rep, hasL_flat, hasL_append, -List.map_set]) rfl) ?_
        refine AD2.go ?_
        refine AD3.st rfl rfl rfl (st_appendF Try.underlying60 inf74 rfl (by decide) rfl rfl rfl rfl rfl rfl (by first | assumption | rfl | (simp; done)) (by first | rfl | simp [S.clean, S.put, S.newObj, S.forget, V.has, V.hasL, junkIf, setL, V.cs, hasL_i, hasL_b, hasL_s, hasL_n, hasL_rep, hasL_flat, hasL_append, -List.map_set]) rfl rfl rfl rfl rfl (by first | rfl | simp [S.clean, S.put, S.newObj, S.forget, V.has, V.hasL, junkIf, setL, V.cs, hasL_i, hasL_b, hasL_s, hasL_n, hasL_rep, hasL_flat, hasL_append, -List.map_set]) rfl (by decide) (by omega) (by omega) rfl) ?_
        simp only [S.forget, S.put, S.newObj, junkIf, V.has, V.hasL, hasL_i, hasL_b, hasL_s, hasL_d, hasL_n, hasL_rep, hasL_flat, hasL_append, List.map_cons, List.map_nil, List.filter_cons, List.filter_nil, Nat.reduceBNe, Nat.reduceBEq, eq_self, bne_self_eq_false,  Bool.not_true, Bool.not_false, Bool.or_false, Bool.or_true, Bool.false_or, Bool.true_or, if_true, if_false, Bool.false_eq_true, ite_true, ite_false, ↓reduceIte, beq_self_eq_true, Nat.reduceEqDiff]
        (first | (refine AD3.rp1 rfl rfl rfl rfl (rp_field_ref Try.underlying62 rfl rfl rfl inf60 (by decide) rfl) ?_) | (refine AD3.rp1 rfl rfl rfl rfl (rp_field_ad Try.underlying62 rfl rfl rfl inf60 (by decide) rfl) ?_))
        (first | (refine AD3.st rfl rfl rfl (st_store_map2 inf60 rfl rfl rfl rfl rfl rfl rfl rfl (by first | assumption | omega)) ?_) | (refine AD3.st rfl rfl rfl (st_store inf60 rfl rfl rfl rfl rfl rfl rfl (by first | decide | (simp; done)) rfl) ?_))
        refine AD3.nil ?_
        try simp only [thenS, S.put, S.newObj, setL, V.cs, List.length_cons, List.length_nil, List.take_succ_cons, List.take_zero, List.drop_succ_cons, List.drop_zero, List.drop_nil, List.nil_append, List.cons_append, List.append_nil, Nat.zero_add, Nat.reduceAdd, List.map_cons, List.map_nil, List.set_cons_zero, List.set_cons_succ]
        refine AW.region ?_
        refine AL.rp rfl rfl (rp_move rfl rfl) ?_
        refine AL.rp rfl rfl (rp_add rfl rfl rfl (by omega)) ?_
        refine AL.rp rfl rfl (rp_assign rfl rfl) ?_
        refine AL.nil ?_
        try simp only [thenS, S.put]
        refine ⟨_, ?_, ⟨k + 1, by omega, rfl⟩, ?_⟩
        · rw [hsn]
          simp only [List.flatMap_append, List.flatMap_cons, List.flatMap_nil, List.append_nil, List.length_append, List.length_cons, List.length_nil, Nat.zero_add]
          exact (Less.of rfl (by repeat (first | exact trivial | refine ⟨⟨_, rfl, Wk.refl _⟩, ?_⟩ | refine ⟨⟨_, rfl, Wk.nil _ _⟩, ?_⟩ | refine ⟨⟨_, rfl, Wk.junk _⟩, ?_⟩)) (by repeat (first | exact trivial | refine ⟨rfl, ?_⟩)) rfl)
        · simp [S.nat, fnd]; omega
    · obtain rfl : k = n := by omega
      obtain ⟨n, rfl⟩ : ∃ n, n = k := ⟨_, rfl⟩
      refine AW.seq ?_
      refine AW.seq ?_
      refine AW.region ?_
      refine AL.rp rfl rfl (rp_move rfl rfl) ?_
      (first | (refine AL.rp rfl rfl (rp_field_ref Try.underlying24 rfl rfl rfl inf22 (by decide) rfl) ?_) | (refine AL.rp rfl rfl (rp_field_ad Try.underlying24 rfl rfl rfl inf22 (by decide) rfl) ?_))
      (first | (refine AL.rd rfl rfl (rd_load_ref Try.underlying22 rfl rfl rfl rfl rfl rfl) ?_) | (refine AL.rd rfl rfl (rd_load_ad Try.underlying22 rfl rfl rfl rfl) ?_) | (refine AL.rd rfl rfl (rd_load_map Try.underlying22 rfl rfl rfl rfl rfl rfl (by assumption)) ?_))
      (first | (refine AL.rp rfl rfl (rp_len_map Try.underlying22 rfl rfl (by assumption)) ?_) | (refine AL.rp rfl rfl (rp_len_own Try.underlying22 rfl rfl) ?_) | (refine AL.rp rfl rfl (rp_len_sl Try.underlying22 rfl rfl) ?_) | (refine AL.rp rfl rfl (rp_len_nil Try.underlying22 rfl rfl) ?_) | (refine AL.rp rfl rfl (rp_len_str Try.underlying22 rfl rfl) ?_))
      (first | (refine AL.rp rfl rfl (rp_lssT rfl rfl rfl (by first | assumption | omega)) ?_) | (refine AL.rp rfl rfl (rp_lssF rfl rfl rfl (by first | assumption | omega)) ?_) | (refine AL.rp rfl rfl (rp_lss rfl rfl rfl) ?_))
      refine AL.nil ?_
      try simp only [thenS, S.put]
      refine AW.condF rfl ?_
      refine AW.exit ?_
      try simp only [thenS, inBlockS, ↓reduceIte, Nat.reduceEqDiff]
      refine AW.seq ?_
      refine AW.freezeH 5 1 32 ((firstL sts n).map arD) rfl rfl rfl (by decide) rfl rfl (by rw [List.length_map]) (by omega) (rowsF (enc := arD) (sz := 4) (l := firstL sts n) (fun _ => rfl) rfl) ?_
      refine AW.less (s' := ⟨79, [(1, .ref 1 0), (2, .ref 2 0), (5, .ref 5 0)], [(1, ⟨24, [.i st, .d (stsD sts)], false, 0⟩), (2, ⟨24, [.i 0, .nil], false, 0⟩), (5, ⟨62, [.i 1000000001, .d (arsD (firstL sts n))], false, 0⟩)], []⟩) (Less.of rfl (by repeat (first | exact trivial | refine ⟨⟨_, rfl, Wk.refl _⟩, ?_⟩ | refine ⟨⟨_, rfl, Wk.nil _ _⟩, ?_⟩ | refine ⟨⟨_, rfl, Wk.junk _⟩, ?_⟩)) (by repeat (first | exact trivial | refine ⟨rfl, ?_⟩)) rfl) ?_
      refine AW.region ?_
      (first | (refine AL.rd rfl rfl (rd_loads_ref Try.underlying62 rfl inf62 rfl rfl rfl rfl rfl rfl) ?_) | (refine AL.rd rfl rfl (rd_loads_ad Try.underlying62 rfl inf62 rfl rfl rfl rfl) ?_))
      refine AL.sm rfl (sm_slice (vs := [(0, _)]) (zs := [.d (.p (.int .i64 0)), .d (.p (.slice none 0 0))]) 48 Try.underlying22 inf62 rfl rfl (by decide) (by decide) (by decide) rfl rfl rfl rfl (by first | rfl | simp [S.clean, S.put, S.newObj, S.forget, V.has, V.hasL, junkIf, setL, V.cs, hasL_i, hasL_b, hasL_s, hasL_n, hasL_rep, hasL_flat, hasL_append, -List.map_set]) (by first | rfl | simp [S.clean, S.put, S.newObj, S.forget, V.has, V.hasL, junkIf, setL, V.cs, hasL_i, hasL_b, hasL_s, hasL_n, hasL_rep, hasL_flat, hasL_append, -List.map_set]) rfl) ?_
      refine AL.rp rfl rfl (rp_build (vs := [(0, _), (1, _)]) (zs := [.d (.p (.int .i64 0)), .d (.p (.slice none 0 0))]) pl24 inf24 rfl rfl rfl rfl) ?_
      refine AL.sm rfl (sm_alloc (l := [.d (.p (.int .i64 0)), .d (.p (.slice none 0 0))]) 7 inf24 rfl (by first | rfl | simp [S.clean, S.put, S.newObj, S.forget, V.has, V.hasL, junkIf, setL, V.cs, hasL_i, hasL_b, hasL_s, hasL_n, hasL_rep, hasL_flat, hasL_append, -List.map_set]) rfl rfl) ?_
      refine AL.st rfl (st_store_any inf24 rfl rfl rfl rfl rfl rfl rfl rfl (by first | decide | (simp; omega)) rfl) ?_
      refine AL.nil ?_
      try simp only [thenS, S.put, S.newObj, setL, V.cs, List.length_cons, List.length_nil, List.take_succ_cons, List.take_zero, List.drop_succ_cons, List.drop_zero, List.drop_nil, List.nil_append, List.cons_append, List.append_nil, Nat.zero_add, Nat.reduceAdd, List.map_cons, List.map_nil, List.set_cons_zero, List.set_cons_succ]
      refine AW.seq ?_
      refine AW.seq ?_
      refine AW.region ?_
      refine AL.rp rfl rfl (rp_assign rfl rfl) ?_
      refine AL.nil ?_
      try simp only [thenS, S.put]
      refine AW.block ?_
      refine AW.loop (fun s' => ∃ j : Nat, j ≤ n ∧ s' = ⟨79, [(1, .ref 1 0), (2, .ref 2 0), (7, .ref 7 0), (8, .i j)], [(1, ⟨24, [.i st, .d (stsD sts)], false, 0⟩), (2, ⟨24, [.i 0, .nil], false, 0⟩), (7, ⟨24, [.i 0, .own 48 2 (j + 1) false], false, 0⟩), (48, ⟨62, (revL (firstL sts n) (fun p => if st = (p : Int) then 0 else 1000000001) (fun p => intoL sts p n) j).flatMap stV2, false, 2⟩)], []⟩) (fun s' => n - s'.nat 8) ⟨_, ?_, 0, by omega, rfl⟩ ?_
      · exact (Less.of rfl (by repeat (first | exact trivial | refine ⟨⟨_, rfl, Wk.refl _⟩, ?_⟩ | refine ⟨⟨_, rfl, Wk.nil _ _⟩, ?_⟩ | refine ⟨⟨_, rfl, Wk.junk _⟩, ?_⟩)) (by repeat (first | exact trivial | refine ⟨rfl, ?_⟩)) rfl)
      rintro s' ⟨j, hj, rfl⟩
      have hfl : ((revL (firstL sts n) (fun p => if st = (p : Int) then 0 else 1000000001) (fun p => intoL sts p n) j).flatMap stV2).length = (j + 1) * 2 := by rw [flat_len (sz := 2) (fun _ => rfl), revL_len]
      by_cases hlj : j < n
      · have hsn := congrArg (List.flatMap stV2) (revL_snoc (firstL sts n) (fun p => if st = (p : Int) then 0 else 1000000001) (fun p => intoL sts p n) j)
        rw [List.flatMap_append, List.flatMap_cons, List.flatMap_nil, List.append_nil] at hsn
        by_cases hs : (j : Int) = st
        · rw [if_pos hs.symm] at hsn
          refine AW.seq ?_
          refine AW.seq ?_
          refine AW.region ?_
          refine AL.rp rfl rfl (rp_move rfl rfl) ?_
          (first | (refine AL.rp rfl rfl (rp_field_ref Try.underlying24 rfl rfl rfl inf22 (by decide) rfl) ?_) | (refine AL.rp rfl rfl (rp_field_ad Try.underlying24 rfl rfl rfl inf22 (by decide) rfl) ?_))
          (first | (refine AL.rd rfl rfl (rd_load_ref Try.underlying22 rfl rfl rfl rfl rfl rfl) ?_) | (refine AL.rd rfl rfl (rd_load_ad Try.underlying22 rfl rfl rfl rfl) ?_) | (refine AL.rd rfl rfl (rd_load_map Try.underlying22 rfl rfl rfl rfl rfl rfl (by assumption)) ?_))
          (first | (refine AL.rp rfl rfl (rp_len_map Try.underlying22 rfl rfl (by assumption)) ?_) | (refine AL.rp rfl rfl (rp_len_own Try.underlying22 rfl rfl) ?_) | (refine AL.rp rfl rfl (rp_len_sl Try.underlying22 rfl rfl) ?_) | (refine AL.rp rfl rfl (rp_len_nil Try.underlying22 rfl rfl) ?_) | (refine AL.rp rfl rfl (rp_len_str Try.underlying22 rfl rfl) ?_))
          (first | (refine AL.rp rfl rfl (rp_lssT rfl rfl rfl (by first | assumption | omega)) ?_) | (refine AL.rp rfl rfl (rp_lssF rfl rfl rfl (by first | assumption | omega)) ?_) | (refine AL.rp rfl rfl (rp_lss rfl rfl rfl) ?_))
          refine AL.nil ?_
          try simp only [thenS, S.put]
          refine AW.condT rfl ?_
          refine AW.skip ?_
          try simp only [thenS]
          refine AW.seq ?_
          refine AW.block ?_
          refine AW.seq ?_
          refine AW.region ?_
          (first | (refine AL.rd rfl rfl (rd_loads_ref Try.underlying24 rfl inf24 rfl rfl rfl rfl rfl rfl) ?_) | (refine AL.rd rfl rfl (rd_loads_ad Try.underlying24 rfl inf24 rfl rfl rfl rfl) ?_))
          refine AL.rp rfl rfl (rp_move rfl rfl) ?_
          refine AL.call (post := ?pc4) rfl (sm_call (args := [_, _]) ?hc4 ⟨Try.func57, rfl, rfl, rfl, rfl⟩ rfl rfl rfl rfl) ?_
          case hc4 => exact hinto j
          rintro _ rfl -
          try dsimp only
          refine AL.rp rfl rfl (rp_build (vs := [(0, _), (1, _)]) (zs := [.d (.p (.int .i64 0)), .d (.p (.slice none 0 0))]) pl62 inf62 rfl rfl rfl rfl) ?_
          refine AL.sm rfl (sm_alloc (l := [.d (.p (.int .i64 0)), .d (.p (.slice none 0 0))]) 9 inf62 rfl (by first | rfl | simp [S.clean, S.put, S.newObj, S.forget, V.has, V.hasL, junkIf, setL, V.cs, hasL_i, hasL_b, hasL_s, hasL_n, hasL_rep, hasL_flat, hasL_append, -List.map_set]) rfl rfl) ?_
          refine AL.st rfl (st_store_any inf62 rfl rfl rfl rfl rfl rfl rfl rfl (by first | decide | (simp; omega)) rfl) ?_
          refine AL.nil ?_
          try simp only [thenS, S.put, S.newObj, setL, V.cs, List.length_cons, List.length_nil, List.take_succ_cons, List.take_zero, List.drop_succ_cons, List.drop_zero, List.drop_nil, List.nil_append, List.cons_append, List.append_nil, Nat.zero_add, Nat.reduceAdd, List.map_cons, List.map_nil, List.set_cons_zero, List.set_cons_succ]
          refine AW.seq ?_
          refine AW.seq ?_
          refine AW.region ?_
          refine AL.rp rfl rfl (rp_move rfl rfl) ?_
          (first | (refine AL.rp rfl rfl (rp_field_ref Try.underlying24 rfl rfl rfl inf3 (by decide) rfl) ?_) | (refine AL.rp rfl rfl (rp_field_ad Try.underlying24 rfl rfl rfl inf3 (by decide) rfl) ?_))
          (first | (refine AL.rd rfl rfl (rd_load_ref Try.underlying3 rfl rfl rfl rfl rfl rfl) ?_) | (refine AL.rd rfl rfl (rd_load_ad Try.underlying3 rfl rfl rfl rfl) ?_) | (refine AL.rd rfl rfl (rd_load_map Try.underlying3 rfl rfl rfl rfl rfl rfl (by assumption)) ?_))
          (first | (refine AL.rp rfl rfl (rp_eqlT rfl rfl rfl (by first | assumption | omega)) ?_) | (refine AL.rp rfl rfl (rp_eqlF rfl rfl rfl (by first | assumption | omega)) ?_) | (refine AL.rp rfl rfl (rp_eql rfl rfl rfl) ?_))
          refine AL.nil ?_
          try simp only [thenS, S.put]
          refine AW.condT rfl ?_
          refine AW.region ?_
          (first | (refine AL.rp rfl rfl (rp_field_ref Try.underlying62 rfl rfl rfl inf3 (by decide) rfl) ?_) | (refine AL.rp rfl rfl (rp_field_ad Try.underlying62 rfl rfl rfl inf3 (by decide) rfl) ?_))
          (first | (refine AL.st rfl (st_store_map2 inf3 rfl rfl rfl rfl rfl rfl rfl rfl (by first | assumption | omega)) ?_) | (refine AL.st rfl (st_store inf3 rfl rfl rfl rfl rfl rfl rfl (by first | decide | (simp; done)) rfl) ?_))
          refine AL.nil ?_
          try simp only [thenS, S.put, S.newObj, setL, V.cs, List.length_cons, List.length_nil, List.take_succ_cons, List.take_zero, List.drop_succ_cons, List.drop_zero, List.drop_nil, List.nil_append, List.cons_append, List.append_nil, Nat.zero_add, Nat.reduceAdd, List.map_cons, List.map_nil, List.set_cons_zero, List.set_cons_succ]
          refine AW.region ?_
          (first | (refine AL.rp rfl rfl (rp_field_ref Try.underlying24 rfl rfl rfl inf22 (by decide) rfl) ?_) | (refine AL.rp rfl rfl (rp_field_ad Try.underlying24 rfl rfl rfl inf22 (by decide) rfl) ?_))
          (first | (refine AL.rd rfl rfl (rd_load_ref Try.underlying22 rfl rfl rfl rfl rfl rfl) ?_) | (refine AL.rd rfl rfl (rd_load_ad Try.underlying22 rfl rfl rfl rfl) ?_) | (refine AL.rd rfl rfl (rd_load_map Try.underlying22 rfl rfl rfl rfl rfl rfl (by assumption)) ?_))
          (first | (refine AL.rd rfl rfl (rd_loads_ref Try.underlying62 rfl inf62 rfl rfl rfl rfl rfl rfl) ?_) | (refine AL.rd rfl rfl (rd_loads_ad Try.underlying62 rfl inf62 rfl rfl rfl rfl) ?_))
          refine AL.sm rfl (sm_slice (vs := [(0, _)]) (zs := [.d (.p (.int .i64 0)), .d (.p (.slice none 0 0))]) 69 Try.underlying22 inf62 rfl rfl (by decide) (by decide) (by decide) rfl rfl rfl rfl (by first | rfl | simp [S.clean, S.put, S.newObj, S.forget, V.has, V.hasL, junkIf, setL, V.cs, hasL_i, hasL_b, hasL_s, hasL_n, hasL_rep, hasL_flat, hasL_append, -List.map_set]) (by first | rfl | simp [S.clean, S.put, S.newObj, S.forget, V.has, V.hasL, junkIf, setL, V.cs, hasL_i, hasL_b, hasL_s, hasL_n, hasL_rep, hasL_flat, hasL_append, -List.map_set]) rfl) ?_
          refine AL.st rfl (st_appendF Try.underlying22 inf62 rfl (by decide) rfl rfl rfl rfl rfl rfl (by first | assumption | rfl | (simp; done)) (by first | rfl | simp [S.clean, S.put, S.newObj, S.forget, V.has, V.hasL, junkIf, setL, V.cs, hasL_i, hasL_b, hasL_s, hasL_n, hasL_rep, hasL_flat, hasL_append, -List.map_set]) rfl rfl rfl rfl rfl (by first | rfl | simp [S.clean, S.put, S.newObj, S.forget, V.has, V.hasL, junkIf, setL, V.cs, hasL_i, hasL_b, hasL_s, hasL_n, hasL_rep, hasL_flat, hasL_append, -List.map_set]) rfl (by decide) (by omega) (by omega) rfl) ?_
          simp only [S.forget, S.put, S.newObj, junkIf, V.has, V.hasL, hasL_i, hasL_b, hasL_s, hasL_d, hasL_n, hasL_rep, hasL_flat, hasL_append, List.map_cons, List.map_nil, List.filter_cons, List.filter_nil, Nat.reduceBNe, Nat.reduceBEq, eq_self, bne_self_eq_false,  Bool.not_true, Bool.not_false, Bool.or_false, Bool.or_true, Bool.false_or, Bool.true_or, if_true, if_false, Bool.false_eq_true, ite_true, ite_false, ↓reduceIte, beq_self_eq_true, Nat.reduceEqDiff]
          (first | (refine AL.rp rfl rfl (rp_field_ref Try.underlying24 rfl rfl rfl inf22 (by decide) rfl) ?_) | (refine AL.rp rfl rfl (rp_field_ad Try.underlying24 rfl rfl rfl inf22 (by decide) rfl) ?_))
          (first | (refine AL.st rfl (st_store_map2 inf22 rfl rfl rfl rfl rfl rfl rfl rfl (by first | assumption | omega)) ?_) | (refine AL.st rfl (st_store inf22 rfl rfl rfl rfl rfl rfl rfl (by first | decide | (simp; done)) rfl) ?_))
          refine AL.nil ?_
          try simp only [thenS, S.put, S.newObj, setL, V.cs, List.length_cons, List.length_nil, List.take_succ_cons, List.take_zero, List.drop_succ_cons, List.drop_zero, List.drop_nil, List.nil_append, List.cons_append, List.append_nil, Nat.zero_add, Nat.reduceAdd, List.map_cons, List.map_nil, List.set_cons_zero, List.set_cons_succ]
          refine AW.region ?_
          refine AL.rp rfl rfl (rp_move rfl rfl) ?_
          refine AL.rp rfl rfl (rp_add rfl rfl rfl (by omega)) ?_
          refine AL.rp rfl rfl (rp_assign rfl rfl) ?_
          refine AL.nil ?_
          try simp only [thenS, S.put]
          refine ⟨_, ?_, ⟨j + 1, by omega, rfl⟩, ?_⟩
          · rw [hsn]; exact (Less.of rfl (by repeat (first | exact trivial | refine ⟨⟨_, rfl, Wk.refl _⟩, ?_⟩ | refine ⟨⟨_, rfl, Wk.nil _ _⟩, ?_⟩ | refine ⟨⟨_, rfl, Wk.junk _⟩, ?_⟩)) (by repeat (first | exact trivial | refine ⟨rfl, ?_⟩)) rfl)
          · simp [S.nat, fnd]; omega
        · rw [if_neg (fun h => hs h.symm)] at hsn
          refine AW.seq ?_
          refine AW.seq ?_
          refine AW.region ?_
          refine AL.rp rfl rfl (rp_move rfl rfl) ?_
          (first | (refine AL.rp rfl rfl (rp_field_ref Try.underlying24 rfl rfl rfl inf22 (by decide) rfl) ?_) | (refine AL.rp rfl rfl (rp_field_ad Try.underlying24 rfl rfl rfl inf22 (by decide) rfl) ?_))
          (first | (refine AL.rd rfl rfl (rd_load_ref Try.underlying22 rfl rfl rfl rfl rfl rfl) ?_) | (refine AL.rd rfl rfl (rd_load_ad Try.underlying22 rfl rfl rfl rfl) ?_) | (refine AL.rd rfl rfl (rd_load_map Try.underlying22 rfl rfl rfl rfl rfl rfl (by assumption)) ?_))
          (first | (refine AL.rp rfl rfl (rp_len_map Try.underlying22 rfl rfl (by assumption)) ?_) | (refine AL.rp rfl rfl (rp_len_own Try.underlying22 rfl rfl) ?_) | (refine AL.rp rfl rfl (rp_len_sl Try.underlying22 rfl rfl) ?_) | (refine AL.rp rfl rfl (rp_len_nil Try.underlying22 rfl rfl) ?_) | (refine AL.rp rfl rfl (rp_len_str Try.underlying22 rfl rfl) ?_))
          (first | (refine AL.rp rfl rfl (rp_lssT rfl rfl rfl (by first | assumption | omega)) ?_) | (refine AL.rp rfl rfl (rp_lssF rfl rfl rfl (by first | assumption | omega)) ?_) | (refine AL.rp rfl rfl (rp_lss rfl rfl rfl) ?_))
          refine AL.nil ?_
          try simp only [thenS, S.put]
          refine AW.condT rfl ?_
          refine AW.skip ?_
          try simp only [thenS]
          refine AW.seq ?_
          refine AW.block ?_
          refine AW.seq ?_
          refine AW.region ?_
          (first | (refine AL.rd rfl rfl (rd_loads_ref Try.underlying24 rfl inf24 rfl rfl rfl rfl rfl rfl) ?_) | (refine AL.rd rfl rfl (rd_loads_ad Try.underlying24 rfl inf24 rfl rfl rfl rfl) ?_))
          refine AL.rp rfl rfl (rp_move rfl rfl) ?_
          refine AL.call (post := ?pc5) rfl (sm_call (args := [_, _]) ?hc5 ⟨Try.func57, rfl, rfl, rfl, rfl⟩ rfl rfl rfl rfl) ?_
          case hc5 => exact hinto j
          rintro _ rfl -
          try dsimp only
          refine AL.rp rfl rfl (rp_build (vs := [(0, _), (1, _)]) (zs := [.d (.p (.int .i64 0)), .d (.p (.slice none 0 0))]) pl62 inf62 rfl rfl rfl rfl) ?_
          refine AL.sm rfl (sm_alloc (l := [.d (.p (.int .i64 0)), .d (.p (.slice none 0 0))]) 9 inf62 rfl (by first | rfl | simp [S.clean, S.put, S.newObj, S.forget, V.has, V.hasL, junkIf, setL, V.cs, hasL_i, hasL_b, hasL_s, hasL_n, hasL_rep, hasL_flat, hasL_append, -List.map_set]) rfl rfl) ?_
          refine AL.st rfl (st_store_any inf62 rfl rfl rfl rfl rfl rfl rfl rfl (by first | decide | (simp; omega)) rfl) ?_
          refine AL.nil ?_
          try simp only [thenS, S.put, S.newObj, setL, V.cs, List.length_cons, List.length_nil, List.take_succ_cons, List.take_zero, List.drop_succ_cons, List.drop_zero, List.drop_nil, List.nil_append, List.cons_append, List.append_nil, Nat.zero_add, Nat.reduceAdd, List.map_cons, List.map_nil, List.set_cons_zero, List.set_cons_succ]
          refine AW.seq ?_
          refine AW.seq ?_
          refine AW.region ?_
          refine AL.rp rfl rfl (rp_move rfl rfl) ?_
          (first | (refine AL.rp rfl rfl (rp_field_ref Try.underlying24 rfl rfl rfl inf3 (by decide) rfl) ?_) | (refine AL.rp rfl rfl (rp_field_ad Try.underlying24 rfl rfl rfl inf3 (by decide) rfl) ?_))
          (first | (refine AL.rd rfl rfl (rd_load_ref Try.underlying3 rfl rfl rfl rfl rfl rfl) ?_) | (refine AL.rd rfl rfl (rd_load_ad Try.underlying3 rfl rfl rfl rfl) ?_) | (refine AL.rd rfl rfl (rd_load_map Try.underlying3 rfl rfl rfl rfl rfl rfl (by assumption)) ?_))
          (first | (refine AL.rp rfl rfl (rp_eqlT rfl rfl rfl (by first | assumption | omega)) ?_) | (refine AL.rp rfl rfl (rp_eqlF rfl rfl rfl (by first | assumption | omega)) ?_) | (refine AL.rp rfl rfl (rp_eql rfl rfl rfl) ?_))
          refine AL.nil ?_
          try simp only [thenS, S.put]
          refine AW.condF rfl ?_
          refine AW.skip ?_
          try simp only [thenS]
          refine AW.region ?_
          (first | (refine AL.rp rfl rfl (rp_field_ref Try.underlying24 rfl rfl rfl inf22 (by decide) rfl) ?_) | (refine AL.rp rfl rfl (rp_field_ad Try.underlying24 rfl rfl rfl inf22 (by decide) rfl) ?_))
          (first | (refine AL.rd rfl rfl (rd_load_ref Try.underlying22 rfl rfl rfl rfl rfl rfl) ?_) | (refine AL.rd rfl rfl (rd_load_ad Try.underlying22 rfl rfl rfl rfl) ?_) | (refine AL.rd rfl rfl (rd_load_map Try.underlying22 rfl rfl rfl rfl rfl rfl (by assumption)) ?_))
          (first | (refine AL.rd rfl rfl (rd_loads_ref Try.underlying62 rfl inf62 rfl rfl rfl rfl rfl rfl) ?_) | (refine AL.rd rfl rfl (rd_loads_ad Try.underlying62 rfl inf62 rfl rfl rfl rfl) ?_))
          refine AL.sm rfl (sm_slice (vs := [(0, _)]) (zs := [.d (.p (.int .i64 0)), .d (.p (.slice none 0 0))]) 69 Try.underlying22 inf62 rfl rfl (by decide) (by decide) (by decide) rfl rfl rfl rfl (by first | rfl | simp [S.clean, S.put, S.newObj, S.forget, V.has, V.hasL, junkIf, setL, V.cs, hasL_i, hasL_b, hasL_s, hasL_n, hasL_rep, hasL_flat, hasL_append, -List.map_set]) (by first | rfl | simp [S.clean, S.put, S.newObj, S.forget, V.has, V.hasL, junkIf, setL, V.cs, hasL_i, hasL_b, hasL_s, hasL_n, hasL_rep, hasL_flat, hasL_append, -List.map_set]) rfl) ?_
          refine AL.st rfl (st_appendF Try.underlying22 inf62 rfl (by decide) rfl rfl rfl rfl rfl rfl (by first | assumption | rfl | (simp; done)) (by first | rfl | simp [S.clean, S.put, S.newObj, S.forget, V.has, V.hasL, junkIf, setL, V.cs, hasL_i, hasL_b, hasL_s, hasL_n, hasL_rep, hasL_flat, hasL_append, -List.map_set]) rfl rfl rfl rfl rfl (by first | rfl | simp [S.clean, S.put, S.newObj, S.forget, V.has, V.hasL, junkIf, setL, V.cs, hasL_i, hasL_b, hasL_s, hasL_n, hasL_rep, hasL_flat, hasL_append, -List.map_set]) rfl (by decide) (by omega) (by omega) rfl) ?_
          simp only [S.forget, S.put, S.newObj, junkIf, V.has, V.hasL, hasL_i, hasL_b, hasL_s, hasL_d, hasL_n, hasL_rep, hasL_flat, hasL_append, List.map_cons, List.map_nil, List.filter_cons, List.filter_nil, Nat.reduceBNe, Nat.reduceBEq, eq_self, bne_self_eq_false,  Bool.not_true, Bool.not_false, Bool.or_false, Bool.or_true, Bool.false_or, Bool.true_or, if_true, if_false, Bool.false_eq_true, ite_true, ite_false, ↓reduceIte, beq_self_eq_true, Nat.reduceEqDiff]
          (first | (refine AL.rp rfl rfl (rp_field_ref Try.underlying24 rfl rfl rfl inf22 (by decide) rfl) ?_) | (refine AL.rp rfl rfl (rp_field_ad Try.underlying24 rfl rfl rfl inf22 (by decide) rfl) ?_))
          (first | (refine AL.st rfl (st_store_map2 inf22 rfl rfl rfl rfl rfl rfl rfl rfl (by first | assumption | omega)) ?_) | (refine AL.st rfl (st_store inf22 rfl rfl rfl rfl rfl rfl rfl (by first | decide | (simp; done)) rfl) ?_))
          refine AL.nil ?_
          try simp only [thenS, S.put, S.newObj, setL, V.cs, List.length_cons, List.length_nil, List.take_succ_cons, List.take_zero, List.drop_succ_cons, List.drop_zero, List.drop_nil, List.nil_append, List.cons_append, List.append_nil, Nat.zero_add, Nat.reduceAdd, List.map_cons, List.map_nil, List.set_cons_zero, List.set_cons_succ]
          refine AW.region ?_
          refine AL.rp rfl rfl (rp_move rfl rfl) ?_
          refine AL.rp rfl rfl (rp_add rfl rfl rfl (by omega)) ?_
          refine AL.rp rfl rfl (rp_assign rfl rfl) ?_
          refine AL.nil ?_
          try simp only [thenS, S.put]
          refine ⟨_, ?_, ⟨j + 1, by omega, rfl⟩, ?_⟩
          · rw [hsn]; exact (Less.of rfl (by repeat (first | exact trivial | refine ⟨⟨_, rfl, Wk.refl _⟩, ?_⟩ | refine ⟨⟨_, rfl, Wk.nil _ _⟩, ?_⟩ | refine ⟨⟨_, rfl, Wk.junk _⟩, ?_⟩)) (by repeat (first | exact trivial | refine ⟨rfl, ?_⟩)) rfl)
          · simp [S.nat, fnd]; omega
      · obtain rfl : j = n := by omega
        obtain ⟨n, rfl⟩ : ∃ n, n = j := ⟨_, rfl⟩
        by_cases hbig : 60 < (revL (firstL sts n) (fun p => if st = (p : Int) then 0 else 1000000001) (fun p => intoL sts p n) n).length ∨ 400 < arcN (revL (firstL sts n) (fun p => if st = (p : Int) then 0 else 1000000001) (fun p => intoL sts p n) n)
        · have hfit := am_Fits_no (m := ⟨0, (revL (firstL sts n) (fun p => if st = (p : Int) then 0 else 1000000001) (fun p => intoL sts p n) n)⟩) (by simp only; omega) ha2 hbig
          rw [if_pos hbig] at hE
          subst hE
          refine AW.seq ?_
          refine AW.seq ?_
          refine AW.region ?_
          refine AL.rp rfl rfl (rp_move rfl rfl) ?_
          (first | (refine AL.rp rfl rfl (rp_field_ref Try.underlying24 rfl rfl rfl inf22 (by decide) rfl) ?_) | (refine AL.rp rfl rfl (rp_field_ad Try.underlying24 rfl rfl rfl inf22 (by decide) rfl) ?_))
          (first | (refine AL.rd rfl rfl (rd_load_ref Try.underlying22 rfl rfl rfl rfl rfl rfl) ?_) | (refine AL.rd rfl rfl (rd_load_ad Try.underlying22 rfl rfl rfl rfl) ?_) | (refine AL.rd rfl rfl (rd_load_map Try.underlying22 rfl rfl rfl rfl rfl rfl (by assumption)) ?_))
          (first | (refine AL.rp rfl rfl (rp_len_map Try.underlying22 rfl rfl (by assumption)) ?_) | (refine AL.rp rfl rfl (rp_len_own Try.underlying22 rfl rfl) ?_) | (refine AL.rp rfl rfl (rp_len_sl Try.underlying22 rfl rfl) ?_) | (refine AL.rp rfl rfl (rp_len_nil Try.underlying22 rfl rfl) ?_) | (refine AL.rp rfl rfl (rp_len_str Try.underlying22 rfl rfl) ?_))
          (first | (refine AL.rp rfl rfl (rp_lssT rfl rfl rfl (by first | assumption | omega)) ?_) | (refine AL.rp rfl rfl (rp_lssF rfl rfl rfl (by first | assumption | omega)) ?_) | (refine AL.rp rfl rfl (rp_lss rfl rfl rfl) ?_))
          refine AL.nil ?_
          try simp only [thenS, S.put]
          refine AW.condF rfl ?_
          refine AW.exit ?_
          try simp only [thenS, inBlockS, ↓reduceIte, Nat.reduceEqDiff]
          refine AW.seq ?_
          refine AW.freezeH 7 1 32 ((revL (firstL sts n) (fun p => if st = (p : Int) then 0 else 1000000001) (fun p => intoL sts p n) n).map stD) rfl rfl rfl (by decide) rfl rfl (by rw [List.length_map, revL_len]) (by omega) (rowsF (enc := stD) (sz := 2) (l := (revL (firstL sts n) (fun p => if st = (p : Int) then 0 else 1000000001) (fun p => intoL sts p n) n)) (fun _ => rfl) rfl) ?_
          refine AW.region ?_
          (first | (refine AL.rd rfl rfl (rd_loads_ref Try.underlying24 rfl inf24 rfl rfl rfl rfl rfl rfl) ?_) | (refine AL.rd rfl rfl (rd_loads_ad Try.underlying24 rfl inf24 rfl rfl rfl rfl) ?_))
          refine AL.call (post := ?pc6) rfl (sm_call (args := [_]) ?hc6 ⟨Try.func53, rfl, rfl, rfl, rfl⟩ rfl rfl rfl rfl) ?_
          case hc6 => exact hfit
          rintro _ rfl -
          try dsimp only
          refine AL.rp rfl rfl (rp_move rfl rfl) ?_
          refine AL.rp rfl rfl (rp_extract rfl rfl rfl) ?_
          refine AL.rp rfl rfl (rp_extract rfl rfl rfl) ?_
          refine AL.sm rfl (sm_alloc (l := [.d (.p (.int .i64 0)), .d (.p (.slice none 0 0))]) 10 inf24 rfl (by first | rfl | simp [S.clean, S.put, S.newObj, S.forget, V.has, V.hasL, junkIf, setL, V.cs, hasL_i, hasL_b, hasL_s, hasL_n, hasL_rep, hasL_flat, hasL_append, -List.map_set]) rfl rfl) ?_
          refine AL.st rfl (st_store_any inf24 rfl rfl rfl rfl rfl rfl rfl rfl (by first | decide | (simp; omega)) rfl) ?_
          refine AL.rp rfl rfl (rp_assign rfl rfl) ?_
          refine AL.nil ?_
          try simp only [thenS, S.put, S.newObj, setL, V.cs, List.length_cons, List.length_nil, List.take_succ_cons, List.take_zero, List.drop_succ_cons, List.drop_zero, List.drop_nil, List.nil_append, List.cons_append, List.append_nil, Nat.zero_add, Nat.reduceAdd, List.map_cons, List.map_nil, List.set_cons_zero, List.set_cons_succ]
          refine AW.seq ?_
          refine AW.region ?_
          (first | (refine AL.rd rfl rfl (rd_loads_ref Try.underlying24 rfl inf24 rfl rfl rfl rfl rfl rfl) ?_) | (refine AL.rd rfl rfl (rd_loads_ad Try.underlying24 rfl inf24 rfl rfl rfl rfl) ?_))
          refine AL.rp rfl rfl (rp_move rfl rfl) ?_
          refine AL.st rfl (st_store_any inf24 rfl rfl rfl rfl rfl rfl rfl rfl (by first | decide | (simp; omega)) rfl) ?_
          refine AL.rp rfl rfl (rp_assign rfl rfl) ?_
          refine AL.nil ?_
          try simp only [thenS, S.put, S.newObj, setL, V.cs, List.length_cons, List.length_nil, List.take_succ_cons, List.take_zero, List.drop_succ_cons, List.drop_zero, List.drop_nil, List.nil_append, List.cons_append, List.append_nil, Nat.zero_add, Nat.reduceAdd, List.map_cons, List.map_nil, List.set_cons_zero, List.set_cons_succ]
          refine AW.ret ?_
          exact ⟨[_, _], ⟨⟨2, 0, _, _, rfl, rfl, rfl, Try.underlying24, .inr ⟨rfl, _, _, _, _, inf24, rfl, rfl, rfl⟩⟩, rfl, trivial⟩, .inl ⟨by decide, rfl⟩, by simp [tupOf, V.pure, V.has, V.hasL]⟩
        · have hfit := am_Fits_ok (m := ⟨0, (revL (firstL sts n) (fun p => if st = (p : Int) then 0 else 1000000001) (fun p => intoL sts p n) n)⟩) (by simp only; omega) ha2 hbig
          rw [if_neg hbig] at hE
          subst hE
          refine AW.seq ?_
          refine AW.seq ?_
          refine AW.region ?_
          refine AL.rp rfl rfl (rp_move rfl rfl) ?_
          (first | (refine AL.rp rfl rfl (rp_field_ref Try.underlying24 rfl rfl rfl inf22 (by decide) rfl) ?_) | (refine AL.rp rfl rfl (rp_field_ad Try.underlying24 rfl rfl rfl inf22 (by decide) rfl) ?_))
          (first | (refine AL.rd rfl rfl (rd_load_ref Try.underlying22 rfl rfl rfl rfl rfl rfl) ?_) | (refine AL.rd rfl rfl (rd_load_ad Try.underlying22 rfl rfl rfl rfl) ?_) | (refine AL.rd rfl rfl (rd_load_map Try.underlying22 rfl rfl rfl rfl rfl rfl (by assumption)) ?_))
          (first | (refine AL.rp rfl rfl (rp_len_map Try.underlying22 rfl rfl (by assumption)) ?_) | (refine AL.rp rfl rfl (rp_len_own Try.underlying22 rfl rfl) ?_) | (refine AL.rp rfl rfl (rp_len_sl Try.underlying22 rfl rfl) ?_) | (refine AL.rp rfl rfl (rp_len_nil Try.underlying22 rfl rfl) ?_) | (refine AL.rp rfl rfl (rp_len_str Try.underlying22 rfl rfl) ?_))
          (first | (refine AL.rp rfl rfl (rp_lssT rfl rfl rfl (by first | assumption | omega)) ?_) | (refine AL.rp rfl rfl (rp_lssF rfl rfl rfl (by first | assumption | omega)) ?_) | (refine AL.rp rfl rfl (rp_lss rfl rfl rfl) ?_))
          refine AL.nil ?_
          try simp only [thenS, S.put]
          refine AW.condF rfl ?_
          refine AW.exit ?_
          try simp only [thenS, inBlockS, ↓reduceIte, Nat.reduceEqDiff]
          refine AW.seq ?_
          refine AW.freezeH 7 1 32 ((revL (firstL sts n) (fun p => if st = (p : Int) then 0 else 1000000001) (fun p => intoL sts p n) n).map stD) rfl rfl rfl (by decide) rfl rfl (by rw [List.length_map, revL_len]) (by omega) (rowsF (enc := stD) (sz := 2) (l := (revL (firstL sts n) (fun p => if st = (p : Int) then 0 else 1000000001) (fun p => intoL sts p n) n)) (fun _ => rfl) rfl) ?_
          refine AW.region ?_
          (first | (refine AL.rd rfl rfl (rd_loads_ref Try.underlying24 rfl inf24 rfl rfl rfl rfl rfl rfl) ?_) | (refine AL.rd rfl rfl (rd_loads_ad Try.underlying24 rfl inf24 rfl rfl rfl rfl) ?_))
          refine AL.call (post := ?pc7) rfl (sm_call (args := [_]) ?hc7 ⟨Try.func53, rfl, rfl, rfl, rfl⟩ rfl rfl rfl rfl) ?_
          case hc7 => exact hfit
          rintro _ rfl -
          try dsimp only
          refine AL.rp rfl rfl (rp_move rfl rfl) ?_
          refine AL.rp rfl rfl (rp_extract rfl rfl rfl) ?_
          refine AL.rp rfl rfl (rp_extract rfl rfl rfl) ?_
          refine AL.sm rfl (sm_alloc (l := [.d (.p (.int .i64 0)), .d (.p (.slice none 0 0))]) 10 inf24 rfl (by first | rfl | simp [S.clean, S.put, S.newObj, S.forget, V.has, V.hasL, junkIf, setL, V.cs, hasL_i, hasL_b, hasL_s, hasL_n, hasL_rep, hasL_flat, hasL_append, -List.map_set]) rfl rfl) ?_
          refine AL.st rfl (st_store_any inf24 rfl rfl rfl rfl rfl rfl rfl rfl (by first | decide | (simp; omega)) rfl) ?_
          refine AL.rp rfl rfl (rp_assign rfl rfl) ?_
          refine AL.nil ?_
          try simp only [thenS, S.put, S.newObj, setL, V.cs, List.length_cons, List.length_nil, List.take_succ_cons, List.take_zero, List.drop_succ_cons, List.drop_zero, List.drop_nil, List.nil_append, List.cons_append, List.append_nil, Nat.zero_add, Nat.reduceAdd, List.map_cons, List.map_nil, List.set_cons_zero, List.set_cons_succ]
          refine AW.seq ?_
          refine AW.region ?_
          (first | (refine AL.rd rfl rfl (rd_loads_ref Try.underlying24 rfl inf24 rfl rfl rfl rfl rfl rfl) ?_) | (refine AL.rd rfl rfl (rd_loads_ad Try.underlying24 rfl inf24 rfl rfl rfl rfl) ?_))
          refine AL.rp rfl rfl (rp_move rfl rfl) ?_
          refine AL.st rfl (st_store_any inf24 rfl rfl rfl rfl rfl rfl rfl rfl (by first | decide | (simp; omega)) rfl) ?_
          refine AL.rp rfl rfl (rp_assign rfl rfl) ?_
          refine AL.nil ?_
          try simp only [thenS, S.put, S.newObj, setL, V.cs, List.length_cons, List.length_nil, List.take_succ_cons, List.take_zero, List.drop_succ_cons, List.drop_zero, List.drop_nil, List.nil_append, List.cons_append, List.append_nil, Nat.zero_add, Nat.reduceAdd, List.map_cons, List.map_nil, List.set_cons_zero, List.set_cons_succ]
          refine AW.ret ?_
          exact ⟨[_, _], ⟨⟨2, 0, _, _, rfl, rfl, rfl, Try.underlying24, .inr ⟨rfl, _, _, _, _, inf24, rfl, rfl, rfl⟩⟩, rfl, trivial⟩, .inr ⟨rfl, by rw [hR rfl]; rfl⟩, by simp [tupOf, V.pure, V.has, V.hasL]⟩
  · have hE : revE m = machE m := by unfold revE; rw [if_pos h0]
    obtain ⟨e, he⟩ : ∃ e, machE m = e := ⟨_, rfl⟩
    rw [hE, he]
    rw [he] at h0
    obtain ⟨st, sts⟩ := m
    refine Fn.intro (n := 79) ⟨Try.func20, rfl, rfl, rfl, rfl⟩ (by simp [V.pure, V.has, V.hasL]) (by simp) fun w0 out => ?_
    refine AW.seq ?_
    refine AW.region ?_
    refine AL.sm rfl (sm_box 1 rfl rfl rfl (by first | rfl | simp [S.clean, S.put, S.newObj, S.forget, V.has, V.hasL, junkIf, setL, V.cs, hasL_i, hasL_b, hasL_s, hasL_n, hasL_rep, hasL_flat, hasL_append, -List.map_set]) rfl) ?_
    refine AL.sm rfl (sm_alloc (l := [.d (.p (.int .i64 0)), .d (.p (.slice none 0 0))]) 2 inf24 rfl (by first | rfl | simp [S.clean, S.put, S.newObj, S.forget, V.has, V.hasL, junkIf, setL, V.cs, hasL_i, hasL_b, hasL_s, hasL_n, hasL_rep, hasL_flat, hasL_append, -List.map_set]) rfl rfl) ?_
    refine AL.rp rfl rfl (rp_assign rfl rfl) ?_
    refine AL.nil ?_
    try simp only [thenS, S.put, S.newObj, setL, V.cs, List.length_cons, List.length_nil, List.take_succ_cons, List.take_zero, List.drop_succ_cons, List.drop_zero, List.drop_nil, List.nil_append, List.cons_append, List.append_nil, Nat.zero_add, Nat.reduceAdd, List.map_cons, List.map_nil, List.set_cons_zero, List.set_cons_succ, enum]
    refine AW.seq ?_
    refine AW.region ?_
    (first | (refine AL.rd rfl rfl (rd_loads_ref Try.underlying24 rfl inf24 rfl rfl rfl rfl rfl rfl) ?_) | (refine AL.rd rfl rfl (rd_loads_ad Try.underlying24 rfl inf24 rfl rfl rfl rfl) ?_))
    refine AL.call (post := ?pc8) rfl (sm_call (args := [_]) ?hc8 ⟨Try.func50, rfl, rfl, rfl, rfl⟩ rfl rfl rfl rfl) ?_
    case hc8 => exact Fn.eqi (am_Fault ⟨st, sts⟩) he
    rintro _ rfl -
    try dsimp only
    refine AL.rp rfl rfl (rp_assign rfl rfl) ?_
    refine AL.nil ?_
    try simp only [thenS, S.put, S.newObj, setL, V.cs, List.length_cons, List.length_nil, List.take_succ_cons, List.take_zero, List.drop_succ_cons, List.drop_zero, List.drop_nil, List.nil_append, List.cons_append, List.append_nil, Nat.zero_add, Nat.reduceAdd, List.map_cons, List.map_nil, List.set_cons_zero, List.set_cons_succ]
    refine AW.seq ?_
    refine AW.seq ?_
    refine AW.region ?_
    refine AL.rp rfl rfl (rp_move rfl rfl) ?_
    (first | (refine AL.rp rfl rfl (rp_neqT rfl rfl rfl (by first | assumption | omega)) ?_) | (refine AL.rp rfl rfl (rp_neqF rfl rfl rfl (by first | assumption | omega)) ?_) | (refine AL.rp rfl rfl (rp_neq rfl rfl rfl) ?_))
    refine AL.nil ?_
    try simp only [thenS, S.put]
    refine AW.condT rfl ?_
    refine AW.seq ?_
    refine AW.region ?_
    refine AL.rp rfl rfl (rp_build (vs := []) (zs := [.d (.p (.int .i64 0)), .d (.p (.slice none 0 0))]) pl24 inf24 rfl rfl rfl rfl) ?_
    refine AL.rp rfl rfl (rp_move rfl rfl) ?_
    refine AL.st rfl (st_store_any inf24 rfl rfl rfl rfl rfl rfl rfl rfl (by first | decide | (simp; omega)) rfl) ?_
    refine AL.rp rfl rfl (rp_assign rfl rfl) ?_
    refine AL.nil ?_
    try simp only [thenS, S.put, S.newObj, setL, V.cs, List.length_cons, List.length_nil, List.take_succ_cons, List.take_zero, List.drop_succ_cons, List.drop_zero, List.drop_nil, List.nil_append, List.cons_append, List.append_nil, Nat.zero_add, Nat.reduceAdd, List.map_cons, List.map_nil, List.set_cons_zero, List.set_cons_succ]
    refine AW.ret ?_
    exact ⟨[_, _], ⟨⟨2, 0, _, _, rfl, rfl, rfl, Try.underlying24, .inr ⟨rfl, _, _, _, _, inf24, rfl, rfl, rfl⟩⟩, rfl, trivial⟩, .inl ⟨h0, rfl⟩, by simp [tupOf, V.pure, V.has, V.hasL]⟩
theorem am_Reversed (m : Mach) : Fn Try.prog 20 [mV m] (fun v => v = .tup [mV (revR m), .i (revE m)]) := (am_Reversed0 m).wkS (resP_wk fun h => by unfold revR; rw [if_neg h])
end Go.Proofs.Ytdpniifajmpmkaa
