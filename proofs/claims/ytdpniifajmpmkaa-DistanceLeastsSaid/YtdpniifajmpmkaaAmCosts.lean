/- The document's costs as an answer. -/
import Derived.Test.YtdpniifajmpmkaaAmFault
import Derived.Test.YtdpniifajmpmkaaFrom
namespace Go.Proofs.Ytdpniifajmpmkaa
open Go.RowKit
set_option linter.unusedSimpArgs false
set_option linter.unusedVariables false
set_option maxRecDepth 100000

theorem am_Told_none (x : Nat) (h : x = big) : Fn Try.prog 89 [.i (x : Int)] (fun v => v = .tup [.i ((1000000001 : Nat) : Int), .i 0]) := by
  have hbig := big_eq
  refine Fn.intro (n := 9) ⟨Try.func89, rfl, rfl, rfl, rfl⟩ (by simp [V.pure, V.has, V.hasL]) (by simp) fun w0 out => ?_
  refine AW.seq ?_
  refine AW.region ?_
  refine AL.rp rfl rfl (rp_assign rfl rfl) ?_
  refine AL.rp rfl rfl (rp_assign rfl rfl) ?_
  refine AL.nil ?_
  try simp only [thenS, S.put, enum, List.nil_append, List.cons_append, List.append_nil, Nat.zero_add, Nat.reduceAdd]
  refine AW.seq ?_
  refine AW.seq ?_
  refine AW.region ?_
  refine AL.rp rfl rfl (rp_move rfl rfl) ?_
  (first | (refine AL.rp rfl rfl (rp_eqlT rfl rfl rfl (by first | assumption | omega)) ?_) | (refine AL.rp rfl rfl (rp_eqlF rfl rfl rfl (by first | assumption | omega)) ?_) | (refine AL.rp rfl rfl (rp_eql rfl rfl rfl) ?_))
  refine AL.nil ?_
  try simp only [thenS, S.put]
  refine AW.condT rfl ?_
  refine AW.seq ?_
  refine AW.region ?_
  refine AL.rp rfl rfl (rp_assign rfl rfl) ?_
  refine AL.rp rfl rfl (rp_assign rfl rfl) ?_
  refine AL.nil ?_
  try simp only [thenS, S.put]
  refine AW.ret ?_
  exact ⟨[_, _], ⟨rfl, rfl, trivial⟩, rfl, by simp [tupOf, V.pure, V.has, V.hasL]⟩
theorem am_Told_over (x : Nat) (h : x ≠ big) (h2 : 1000000000 < x) : Fn Try.prog 89 [.i (x : Int)] (fun v => v = .tup [.i 0, .i 4]) := by
  have hbig := big_eq
  refine Fn.intro (n := 9) ⟨Try.func89, rfl, rfl, rfl, rfl⟩ (by simp [V.pure, V.has, V.hasL]) (by simp) fun w0 out => ?_
  refine AW.seq ?_
  refine AW.region ?_
  refine AL.rp rfl rfl (rp_assign rfl rfl) ?_
  refine AL.rp rfl rfl (rp_assign rfl rfl) ?_
  refine AL.nil ?_
  try simp only [thenS, S.put, enum, List.nil_append, List.cons_append, List.append_nil, Nat.zero_add, Nat.reduceAdd]
  refine AW.seq ?_
  refine AW.seq ?_
  refine AW.region ?_
  refine AL.rp rfl rfl (rp_move rfl rfl) ?_
  (first | (refine AL.rp rfl rfl (rp_eqlT rfl rfl rfl (by first | assumption | omega)) ?_) | (refine AL.rp rfl rfl (rp_eqlF rfl rfl rfl (by first | assumption | omega)) ?_) | (refine AL.rp rfl rfl (rp_eql rfl rfl rfl) ?_))
  refine AL.nil ?_
  try simp only [thenS, S.put]
  refine AW.condF rfl ?_
  refine AW.skip ?_
  try simp only [thenS]
  refine AW.seq ?_
  refine AW.seq ?_
  refine AW.region ?_
  refine AL.rp rfl rfl (rp_move rfl rfl) ?_
  (first | (refine AL.rp rfl rfl (rp_gtrT rfl rfl rfl (by first | assumption | omega)) ?_) | (refine AL.rp rfl rfl (rp_gtrF rfl rfl rfl (by first | assumption | omega)) ?_) | (refine AL.rp rfl rfl (rp_gtr rfl rfl rfl) ?_))
  refine AL.nil ?_
  try simp only [thenS, S.put]
  refine AW.condT rfl ?_
  refine AW.seq ?_
  refine AW.region ?_
  refine AL.rp rfl rfl (rp_assign rfl rfl) ?_
  refine AL.rp rfl rfl (rp_assign rfl rfl) ?_
  refine AL.nil ?_
  try simp only [thenS, S.put]
  refine AW.ret ?_
  exact ⟨[_, _], ⟨rfl, rfl, trivial⟩, rfl, by simp [tupOf, V.pure, V.has, V.hasL]⟩
theorem am_Told_ok (x : Nat) (h : x ≠ big) (h2 : x ≤ 1000000000) : Fn Try.prog 89 [.i (x : Int)] (fun v => v = .tup [.i (x : Int), .i 0]) := by
  have hbig := big_eq
  refine Fn.intro (n := 9) ⟨Try.func89, rfl, rfl, rfl, rfl⟩ (by simp [V.pure, V.has, V.hasL]) (by simp) fun w0 out => ?_
  refine AW.seq ?_
  refine AW.region ?_
  refine AL.rp rfl rfl (rp_assign rfl rfl) ?_
  refine AL.rp rfl rfl (rp_assign rfl rfl) ?_
  refine AL.nil ?_
  try simp only [thenS, S.put, enum, List.nil_append, List.cons_append, List.append_nil, Nat.zero_add, Nat.reduceAdd]
  refine AW.seq ?_
  refine AW.seq ?_
  refine AW.region ?_
  refine AL.rp rfl rfl (rp_move rfl rfl) ?_
  (first | (refine AL.rp rfl rfl (rp_eqlT rfl rfl rfl (by first | assumption | omega)) ?_) | (refine AL.rp rfl rfl (rp_eqlF rfl rfl rfl (by first | assumption | omega)) ?_) | (refine AL.rp rfl rfl (rp_eql rfl rfl rfl) ?_))
  refine AL.nil ?_
  try simp only [thenS, S.put]
  refine AW.condF rfl ?_
  refine AW.skip ?_
  try simp only [thenS]
  refine AW.seq ?_
  refine AW.seq ?_
  refine AW.region ?_
  refine AL.rp rfl rfl (rp_move rfl rfl) ?_
  (first | (refine AL.rp rfl rfl (rp_gtrT rfl rfl rfl (by first | assumption | omega)) ?_) | (refine AL.rp rfl rfl (rp_gtrF rfl rfl rfl (by first | assumption | omega)) ?_) | (refine AL.rp rfl rfl (rp_gtr rfl rfl rfl) ?_))
  refine AL.nil ?_
  try simp only [thenS, S.put]
  refine AW.condF rfl ?_
  refine AW.skip ?_
  try simp only [thenS]
  refine AW.seq ?_
  refine AW.region ?_
  refine AL.rp rfl rfl (rp_move rfl rfl) ?_
  refine AL.rp rfl rfl (rp_assign rfl rfl) ?_
  refine AL.rp rfl rfl (rp_assign rfl rfl) ?_
  refine AL.nil ?_
  try simp only [thenS, S.put]
  refine AW.ret ?_
  exact ⟨[_, _], ⟨rfl, rfl, trivial⟩, rfl, by simp [tupOf, V.pure, V.has, V.hasL]⟩
theorem am_costs (L : List Nat) (n : Nat) (hL : L.length = n) (hn : n ≤ 60) : Fn Try.prog 68 [.d (intsN L)] (resD L) := by
  have hbig := big_eq
  refine Fn.intro (n := 30) ⟨Try.func68, rfl, rfl, rfl, rfl⟩ (by simp [V.pure, V.has, V.hasL]) (by simp) fun w0 out => ?_
  refine AW.seq ?_
  refine AW.region ?_
  refine AL.rp rfl rfl (rp_assign rfl rfl) ?_
  refine AL.rp rfl rfl (rp_assign rfl rfl) ?_
  refine AL.nil ?_
  try simp only [thenS, S.put, enum, List.nil_append, List.cons_append, List.append_nil, Nat.zero_add, Nat.reduceAdd]
  refine AW.seq ?_
  refine AW.region ?_
  refine AL.rp rfl rfl (rp_assign rfl rfl) ?_
  refine AL.nil ?_
  try simp only [thenS, S.put]
  refine AW.seq ?_
  refine AW.seq ?_
  refine AW.adopt 4 100 1 3 rfl (by simp [S.clean, V.has, V.hasL]) ?_
  refine AW.region ?_
  refine AL.rp rfl rfl (rp_assign rfl rfl) ?_
  refine AL.nil ?_
  try simp only [thenS, S.put]
  refine AW.block ?_
  refine AW.loop (fun s' => ∃ (k : Nat) (A : List Nat), k ≤ n ∧ A = (L.take k).map tell ∧ (∀ j x : Nat, j < k → L[j]? = some x → okD x = true) ∧ s' = ⟨30, [(0, .d (intsN L)), (4, .own 100 1 k (decide (k = 0))), (5, .i k)], [(100, ⟨3, A.map V.n, decide (k = 0), 1⟩)], []⟩) (fun s' => n - s'.nat 5) ⟨_, ?_, 0, [], by omega, by simp, (fun j x h => absurd h (by omega)), rfl⟩ ?_
  · exact (Less.of rfl (by repeat (first | exact trivial | refine ⟨⟨_, rfl, Wk.refl _⟩, ?_⟩ | refine ⟨⟨_, rfl, Wk.nil _ _⟩, ?_⟩ | refine ⟨⟨_, rfl, Wk.junk _⟩, ?_⟩)) (by repeat (first | exact trivial | refine ⟨rfl, ?_⟩)) rfl)
  rintro s' ⟨k, A, hk, hA, hok, rfl⟩
  by_cases hlt : k < n
  · obtain ⟨x, hx⟩ := get_lt hL hlt
    have hsn := congrArg (List.map tell) (take_snoc hx)
    rw [List.map_append, List.map_cons, List.map_nil] at hsn
    rw [← hA] at hsn
    have hfl : (A.map V.n).length = k * 1 := by rw [hA]; simp; omega
    have hokn : okD x = true → ∀ j z : Nat, j < k + 1 → L[j]? = some z → okD z = true := by
      intro h j z hj hz
      by_cases e : j = k
      · subst e; rw [hx] at hz; simp only [Option.some.injEq] at hz; subst hz; exact h
      · exact hok j z (by omega) hz
    by_cases hb : x = big
    · rw [show tell x = 1000000001 by simp [tell, hb]] at hsn
      refine AW.seq ?_
      refine AW.seq ?_
      refine AW.region ?_
      refine AL.rp rfl rfl (rp_move rfl rfl) ?_
      refine AL.rp rfl rfl (rp_move rfl rfl) ?_
      (first | (refine AL.rp rfl rfl (rp_len_map Try.underlying41 rfl rfl (by assumption)) ?_) | (refine AL.rp rfl rfl (rp_len_own Try.underlying41 rfl rfl) ?_) | (refine AL.rp rfl rfl (rp_len_sl Try.underlying41 rfl rfl) ?_) | (refine AL.rp rfl rfl (rp_len_nil Try.underlying41 rfl rfl) ?_) | (refine AL.rp rfl rfl (rp_len_str Try.underlying41 rfl rfl) ?_))
      (first | (refine AL.rp rfl rfl (rp_lssT rfl rfl rfl (by first | assumption | omega)) ?_) | (refine AL.rp rfl rfl (rp_lssF rfl rfl rfl (by first | assumption | omega)) ?_) | (refine AL.rp rfl rfl (rp_lss rfl rfl rfl) ?_))
      refine AL.nil ?_
      try simp only [thenS, S.put]
      refine AW.condT rfl ?_
      refine AW.skip ?_
      try simp only [thenS]
      refine AW.seq ?_
      refine AW.block ?_
      refine AW.seq ?_
      refine AW.region ?_
      refine AL.rp rfl rfl (rp_move rfl rfl) ?_
      refine AL.rp rfl rfl (rp_move rfl rfl) ?_
      (first | (refine AL.rp rfl rfl (rp_index_map Try.underlying41 inf3 rfl rfl rfl rfl (by assumption)) ?_) | (refine AL.rp rfl rfl (rp_index_own Try.underlying41 inf3 rfl rfl rfl rfl (by first | assumption | omega)) ?_) | (refine AL.rp rfl rfl (rd_index_sl Try.underlying41 inf3 rfl rfl rfl rfl (by assumption)) ?_) | (refine AL.rp rfl rfl (rp_index_own Try.underlying41 inf3 rfl rfl rfl (by omega) (by omega)) ?_))
      (first | (refine AL.rd rfl rfl (rd_load_ref Try.underlying3 rfl rfl rfl rfl rfl rfl) ?_) | (refine AL.rd rfl rfl (rd_load_ad Try.underlying3 rfl rfl rfl rfl) ?_) | (refine AL.rd rfl rfl (rd_load_map Try.underlying3 rfl rfl rfl rfl rfl rfl (by assumption)) ?_))
      refine AL.call (post := ?pc0) rfl (sm_call (args := [_]) ?hc0 ⟨Try.func89, rfl, rfl, rfl, rfl⟩ rfl rfl rfl rfl) ?_
      case hc0 => exact am_Told_none x hb
      rintro _ rfl -
      try dsimp only
      refine AL.rp rfl rfl (rp_move rfl rfl) ?_
      refine AL.rp rfl rfl (rp_extract rfl rfl rfl) ?_
      refine AL.rp rfl rfl (rp_extract rfl rfl rfl) ?_
      refine AL.rp rfl rfl (rp_assign rfl rfl) ?_
      refine AL.rp rfl rfl (rp_assign rfl rfl) ?_
      refine AL.nil ?_
      try simp only [thenS, S.put, S.newObj, setL, V.cs, List.length_cons, List.length_nil, List.take_succ_cons, List.take_zero, List.drop_succ_cons, List.drop_zero, List.drop_nil, List.nil_append, List.cons_append, List.append_nil, Nat.zero_add, Nat.reduceAdd, List.map_cons, List.map_nil, List.set_cons_zero, List.set_cons_succ]
      refine AW.seq ?_
      refine AW.seq ?_
      refine AW.region ?_
      refine AL.rp rfl rfl (rp_move rfl rfl) ?_
      (first | (refine AL.rp rfl rfl (rp_neqT rfl rfl rfl (by first | assumption | omega)) ?_) | (refine AL.rp rfl rfl (rp_neqF rfl rfl rfl (by first | assumption | omega)) ?_) | (refine AL.rp rfl rfl (rp_neq rfl rfl rfl) ?_))
      refine AL.nil ?_
      try simp only [thenS, S.put]
      refine AW.condF rfl ?_
      refine AW.skip ?_
      try simp only [thenS]
      refine AW.region ?_
      refine AL.rp rfl rfl (rp_move rfl rfl) ?_
      refine AL.rp rfl rfl (rp_move rfl rfl) ?_
      refine AL.sm rfl (sm_slice (vs := [(0, _)]) (zs := [.d (.p (.int .i64 0))]) 27 Try.underlying41 inf3 rfl rfl (by decide) (by decide) (by decide) rfl rfl rfl rfl (by first | rfl | simp [S.clean, S.put, S.newObj, S.forget, V.has, V.hasL, junkIf, setL, V.cs, hasL_i, hasL_b, hasL_s, hasL_n, hasL_rep, hasL_flat, hasL_append, -List.map_set]) (by first | rfl | simp [S.clean, S.put, S.newObj, S.forget, V.has, V.hasL, junkIf, setL, V.cs, hasL_i, hasL_b, hasL_s, hasL_n, hasL_rep, hasL_flat, hasL_append, -List.map_set]) rfl) ?_
      refine AL.st rfl (st_appendF Try.underlying41 inf3 rfl (by decide) rfl rfl rfl rfl rfl rfl (by first | assumption | rfl | (simp; done)) (by first | rfl | simp [S.clean, S.put, S.newObj, S.forget, V.has, V.hasL, junkIf, setL, V.cs, hasL_i, hasL_b, hasL_s, hasL_n, hasL_rep, hasL_flat, hasL_append, -List.map_set]) rfl rfl rfl rfl rfl (by first | rfl | simp [S.clean, S.put, S.newObj, S.forget, V.has, V.hasL, junkIf, setL, V.cs, hasL_i, hasL_b, hasL_s, hasL_n, hasL_rep, hasL_flat, hasL_append, -List.map_set]) rfl (by decide) (by omega) (by omega) rfl) ?_
      simp only [S.forget, S.put, S.newObj, junkIf, V.has, V.hasL, hasL_i, hasL_b, hasL_s, hasL_d, hasL_n, hasL_rep, hasL_flat, hasL_append, List.map_cons, List.map_nil, List.filter_cons, List.filter_nil, Nat.reduceBNe, Nat.reduceBEq, eq_self, bne_self_eq_false,  Bool.not_true, Bool.not_false, Bool.or_false, Bool.or_true, Bool.false_or, Bool.true_or, if_true, if_false, Bool.false_eq_true, ite_true, ite_false, ↓reduceIte, beq_self_eq_true, Nat.reduceEqDiff]
      refine AL.rp rfl rfl (rp_assign rfl rfl) ?_
      refine AL.nil ?_
      try simp only [thenS, S.put, S.newObj, setL, V.cs, List.length_cons, List.length_nil, List.take_succ_cons, List.take_zero, List.drop_succ_cons, List.drop_zero, List.drop_nil, List.nil_append, List.cons_append, List.append_nil, Nat.zero_add, Nat.reduceAdd, List.map_cons, List.map_nil, List.set_cons_zero, List.set_cons_succ]
      refine AW.region ?_
      refine AL.rp rfl rfl (rp_move rfl rfl) ?_
      refine AL.rp rfl rfl (rp_add rfl rfl rfl (by omega)) ?_
      refine AL.rp rfl rfl (rp_assign rfl rfl) ?_
      refine AL.nil ?_
      try simp only [thenS, S.put]
      refine ⟨_, ?_, ⟨k + 1, A ++ [1000000001], by omega, hsn.symm, hokn (by simp [okD, hb]), rfl⟩, ?_⟩
      · simp only [List.map_append, List.map_cons, List.map_nil]
        exact (Less.of rfl (by repeat (first | exact trivial | refine ⟨⟨_, rfl, Wk.refl _⟩, ?_⟩ | refine ⟨⟨_, rfl, Wk.nil _ _⟩, ?_⟩ | refine ⟨⟨_, rfl, Wk.junk _⟩, ?_⟩)) (by repeat (first | exact trivial | refine ⟨rfl, ?_⟩)) rfl)
      · simp [S.nat, fnd]; omega
    · by_cases hov : 1000000000 < x
      · have hall : L.all okD = false := all_not hx (by simp [okD, hb]; omega)
        refine AW.seq ?_
        refine AW.seq ?_
        refine AW.region ?_
        refine AL.rp rfl rfl (rp_move rfl rfl) ?_
        refine AL.rp rfl rfl (rp_move rfl rfl) ?_
        (first | (refine AL.rp rfl rfl (rp_len_map Try.underlying41 rfl rfl (by assumption)) ?_) | (refine AL.rp rfl rfl (rp_len_own Try.underlying41 rfl rfl) ?_) | (refine AL.rp rfl rfl (rp_len_sl Try.underlying41 rfl rfl) ?_) | (refine AL.rp rfl rfl (rp_len_nil Try.underlying41 rfl rfl) ?_) | (refine AL.rp rfl rfl (rp_len_str Try.underlying41 rfl rfl) ?_))
        (first | (refine AL.rp rfl rfl (rp_lssT rfl rfl rfl (by first | assumption | omega)) ?_) | (refine AL.rp rfl rfl (rp_lssF rfl rfl rfl (by first | assumption | omega)) ?_) | (refine AL.rp rfl rfl (rp_lss rfl rfl rfl) ?_))
        refine AL.nil ?_
        try simp only [thenS, S.put]
        refine AW.condT rfl ?_
        refine AW.skip ?_
        try simp only [thenS]
        refine AW.seq ?_
        refine AW.block ?_
        refine AW.seq ?_
        refine AW.region ?_
        refine AL.rp rfl rfl (rp_move rfl rfl) ?_
        refine AL.rp rfl rfl (rp_move rfl rfl) ?_
        (first | (refine AL.rp rfl rfl (rp_index_map Try.underlying41 inf3 rfl rfl rfl rfl (by assumption)) ?_) | (refine AL.rp rfl rfl (rp_index_own Try.underlying41 inf3 rfl rfl rfl rfl (by first | assumption | omega)) ?_) | (refine AL.rp rfl rfl (rd_index_sl Try.underlying41 inf3 rfl rfl rfl rfl (by assumption)) ?_) | (refine AL.rp rfl rfl (rp_index_own Try.underlying41 inf3 rfl rfl rfl (by omega) (by omega)) ?_))
        (first | (refine AL.rd rfl rfl (rd_load_ref Try.underlying3 rfl rfl rfl rfl rfl rfl) ?_) | (refine AL.rd rfl rfl (rd_load_ad Try.underlying3 rfl rfl rfl rfl) ?_) | (refine AL.rd rfl rfl (rd_load_map Try.underlying3 rfl rfl rfl rfl rfl rfl (by assumption)) ?_))
        refine AL.call (post := ?pc1) rfl (sm_call (args := [_]) ?hc1 ⟨Try.func89, rfl, rfl, rfl, rfl⟩ rfl rfl rfl rfl) ?_
        case hc1 => exact am_Told_over x hb hov
        rintro _ rfl -
        try dsimp only
        refine AL.rp rfl rfl (rp_move rfl rfl) ?_
        refine AL.rp rfl rfl (rp_extract rfl rfl rfl) ?_
        refine AL.rp rfl rfl (rp_extract rfl rfl rfl) ?_
        refine AL.rp rfl rfl (rp_assign rfl rfl) ?_
        refine AL.rp rfl rfl (rp_assign rfl rfl) ?_
        refine AL.nil ?_
        try simp only [thenS, S.put, S.newObj, setL, V.cs, List.length_cons, List.length_nil, List.take_succ_cons, List.take_zero, List.drop_succ_cons, List.drop_zero, List.drop_nil, List.nil_append, List.cons_append, List.append_nil, Nat.zero_add, Nat.reduceAdd, List.map_cons, List.map_nil, List.set_cons_zero, List.set_cons_succ]
        refine AW.seq ?_
        refine AW.seq ?_
        refine AW.region ?_
        refine AL.rp rfl rfl (rp_move rfl rfl) ?_
        (first | (refine AL.rp rfl rfl (rp_neqT rfl rfl rfl (by first | assumption | omega)) ?_) | (refine AL.rp rfl rfl (rp_neqF rfl rfl rfl (by first | assumption | omega)) ?_) | (refine AL.rp rfl rfl (rp_neq rfl rfl rfl) ?_))
        refine AL.nil ?_
        try simp only [thenS, S.put]
        refine AW.condT rfl ?_
        refine AW.seq ?_
        refine AW.region ?_
        refine AL.rp rfl rfl (rp_move rfl rfl) ?_
        refine AL.rp rfl rfl (rp_assign rfl rfl) ?_
        refine AL.rp rfl rfl (rp_assign rfl rfl) ?_
        refine AL.nil ?_
        try simp only [thenS, S.put]
        refine AW.ret ?_
        exact ⟨[_, _], ⟨rfl, rfl, trivial⟩, .inr ⟨hall, rfl⟩, by simp [tupOf, V.pure, V.has, V.hasL]⟩
      · rw [show tell x = x by simp [tell, hb]] at hsn
        refine AW.seq ?_
        refine AW.seq ?_
        refine AW.region ?_
        refine AL.rp rfl rfl (rp_move rfl rfl) ?_
        refine AL.rp rfl rfl (rp_move rfl rfl) ?_
        (first | (refine AL.rp rfl rfl (rp_len_map Try.underlying41 rfl rfl (by assumption)) ?_) | (refine AL.rp rfl rfl (rp_len_own Try.underlying41 rfl rfl) ?_) | (refine AL.rp rfl rfl (rp_len_sl Try.underlying41 rfl rfl) ?_) | (refine AL.rp rfl rfl (rp_len_nil Try.underlying41 rfl rfl) ?_) | (refine AL.rp rfl rfl (rp_len_str Try.underlying41 rfl rfl) ?_))
        (first | (refine AL.rp rfl rfl (rp_lssT rfl rfl rfl (by first | assumption | omega)) ?_) | (refine AL.rp rfl rfl (rp_lssF rfl rfl rfl (by first | assumption | omega)) ?_) | (refine AL.rp rfl rfl (rp_lss rfl rfl rfl) ?_))
        refine AL.nil ?_
        try simp only [thenS, S.put]
        refine AW.condT rfl ?_
        refine AW.skip ?_
        try simp only [thenS]
        refine AW.seq ?_
        refine AW.block ?_
        refine AW.seq ?_
        refine AW.region ?_
        refine AL.rp rfl rfl (rp_move rfl rfl) ?_
        refine AL.rp rfl rfl (rp_move rfl rfl) ?_
        (first | (refine AL.rp rfl rfl (rp_index_map Try.underlying41 inf3 rfl rfl rfl rfl (by assumption)) ?_) | (refine AL.rp rfl rfl (rp_index_own Try.underlying41 inf3 rfl rfl rfl rfl (by first | assumption | omega)) ?_) | (refine AL.rp rfl rfl (rd_index_sl Try.underlying41 inf3 rfl rfl rfl rfl (by assumption)) ?_) | (refine AL.rp rfl rfl (rp_index_own Try.underlying41 inf3 rfl rfl rfl (by omega) (by omega)) ?_))
        (first | (refine AL.rd rfl rfl (rd_load_ref Try.underlying3 rfl rfl rfl rfl rfl rfl) ?_) | (refine AL.rd rfl rfl (rd_load_ad Try.underlying3 rfl rfl rfl rfl) ?_) | (refine AL.rd rfl rfl (rd_load_map Try.underlying3 rfl rfl rfl rfl rfl rfl (by assumption)) ?_))
        refine AL.call (post := ?pc2) rfl (sm_call (args := [_]) ?hc2 ⟨Try.func89, rfl, rfl, rfl, rfl⟩ rfl rfl rfl rfl) ?_
        case hc2 => exact am_Told_ok x hb (by omega)
        rintro _ rfl -
        try dsimp only
        refine AL.rp rfl rfl (rp_move rfl rfl) ?_
        refine AL.rp rfl rfl (rp_extract rfl rfl rfl) ?_
        refine AL.rp rfl rfl (rp_extract rfl rfl rfl) ?_
        refine AL.rp rfl rfl (rp_assign rfl rfl) ?_
        refine AL.rp rfl rfl (rp_assign rfl rfl) ?_
        refine AL.nil ?_
        try simp only [thenS, S.put, S.newObj, setL, V.cs, List.length_cons, List.length_nil, List.take_succ_cons, List.take_zero, List.drop_succ_cons, List.drop_zero, List.drop_nil, List.nil_append, List.cons_append, List.append_nil, Nat.zero_add, Nat.reduceAdd, List.map_cons, List.map_nil, List.set_cons_zero, List.set_cons_succ]
        refine AW.seq ?_
        refine AW.seq ?_
        refine AW.region ?_
        refine AL.rp rfl rfl (rp_move rfl rfl) ?_
        (first | (refine AL.rp rfl rfl (rp_neqT rfl rfl rfl (by first | assumption | omega)) ?_) | (refine AL.rp rfl rfl (rp_neqF rfl rfl rfl (by first | assumption | omega)) ?_) | (refine AL.rp rfl rfl (rp_neq rfl rfl rfl) ?_))
        refine AL.nil ?_
        try simp only [thenS, S.put]
        refine AW.condF rfl ?_
        refine AW.skip ?_
        try simp only [thenS]
        refine AW.region ?_
        refine AL.rp rfl rfl (rp_move rfl rfl) ?_
        refine AL.rp rfl rfl (rp_move rfl rfl) ?_
        refine AL.sm rfl (sm_slice (vs := [(0, _)]) (zs := [.d (.p (.int .i64 0))]) 27 Try.underlying41 inf3 rfl rfl (by decide) (by decide) (by decide) rfl rfl rfl rfl (by first | rfl | simp [S.clean, S.put, S.newObj, S.forget, V.has, V.hasL, junkIf, setL, V.cs, hasL_i, hasL_b, hasL_s, hasL_n, hasL_rep, hasL_flat, hasL_append, -List.map_set]) (by first | rfl | simp [S.clean, S.put, S.newObj, S.forget, V.has, V.hasL, junkIf, setL, V.cs, hasL_i, hasL_b, hasL_s, hasL_n, hasL_rep, hasL_flat, hasL_append, -List.map_set]) rfl) ?_
        refine AL.st rfl (st_appendF Try.underlying41 inf3 rfl (by decide) rfl rfl rfl rfl rfl rfl (by first | assumption | rfl | (simp; done)) (by first | rfl | simp [S.clean, S.put, S.newObj, S.forget, V.has, V.hasL, junkIf, setL, V.cs, hasL_i, hasL_b, hasL_s, hasL_n, hasL_rep, hasL_flat, hasL_append, -List.map_set]) rfl rfl rfl rfl rfl (by first | rfl | simp [S.clean, S.put, S.newObj, S.forget, V.has, V.hasL, junkIf, setL, V.cs, hasL_i, hasL_b, hasL_s, hasL_n, hasL_rep, hasL_flat, hasL_append, -List.map_set]) rfl (by decide) (by omega) (by omega) rfl) ?_
        simp only [S.forget, S.put, S.newObj, junkIf, V.has, V.hasL, hasL_i, hasL_b, hasL_s, hasL_d, hasL_n, hasL_rep, hasL_flat, hasL_append, List.map_cons, List.map_nil, List.filter_cons, List.filter_nil, Nat.reduceBNe, Nat.reduceBEq, eq_self, bne_self_eq_false,  Bool.not_true, Bool.not_false, Bool.or_false, Bool.or_true, Bool.false_or, Bool.true_or, if_true, if_false, Bool.false_eq_true, ite_true, ite_false, ↓reduceIte, beq_self_eq_true, Nat.reduceEqDiff]
        refine AL.rp rfl rfl (rp_assign rfl rfl) ?_
        refine AL.nil ?_
        try simp only [thenS, S.put, S.newObj, setL, V.cs, List.length_cons, List.length_nil, List.take_succ_cons, List.take_zero, List.drop_succ_cons, List.drop_zero, List.drop_nil, List.nil_append, List.cons_append, List.append_nil, Nat.zero_add, Nat.reduceAdd, List.map_cons, List.map_nil, List.set_cons_zero, List.set_cons_succ]
        refine AW.region ?_
        refine AL.rp rfl rfl (rp_move rfl rfl) ?_
        refine AL.rp rfl rfl (rp_add rfl rfl rfl (by omega)) ?_
        refine AL.rp rfl rfl (rp_assign rfl rfl) ?_
        refine AL.nil ?_
        try simp only [thenS, S.put]
        refine ⟨_, ?_, ⟨k + 1, A ++ [x], by omega, hsn.symm, hokn (by simp [okD]; omega), rfl⟩, ?_⟩
        · simp only [List.map_append, List.map_cons, List.map_nil]
          exact (Less.of rfl (by repeat (first | exact trivial | refine ⟨⟨_, rfl, Wk.refl _⟩, ?_⟩ | refine ⟨⟨_, rfl, Wk.nil _ _⟩, ?_⟩ | refine ⟨⟨_, rfl, Wk.junk _⟩, ?_⟩)) (by repeat (first | exact trivial | refine ⟨rfl, ?_⟩)) rfl)
        · simp [S.nat, fnd]; omega
  · have hall : L.all okD = true := by
      rw [List.all_eq_true]
      intro x hx
      obtain ⟨j, hj⟩ := List.getElem?_of_mem hx
      exact hok j x (by have := (List.getElem?_eq_some_iff.1 hj).1; omega) hj
    rw [List.take_of_length_le (by omega)] at hA
    subst hA
    refine AW.seq ?_
    refine AW.seq ?_
    refine AW.region ?_
    refine AL.rp rfl rfl (rp_move rfl rfl) ?_
    refine AL.rp rfl rfl (rp_move rfl rfl) ?_
    (first | (refine AL.rp rfl rfl (rp_len_map Try.underlying41 rfl rfl (by assumption)) ?_) | (refine AL.rp rfl rfl (rp_len_own Try.underlying41 rfl rfl) ?_) | (refine AL.rp rfl rfl (rp_len_sl Try.underlying41 rfl rfl) ?_) | (refine AL.rp rfl rfl (rp_len_nil Try.underlying41 rfl rfl) ?_) | (refine AL.rp rfl rfl (rp_len_str Try.underlying41 rfl rfl) ?_))
    (first | (refine AL.rp rfl rfl (rp_lssT rfl rfl rfl (by first | assumption | omega)) ?_) | (refine AL.rp rfl rfl (rp_lssF rfl rfl rfl (by first | assumption | omega)) ?_) | (refine AL.rp rfl rfl (rp_lss rfl rfl rfl) ?_))
    refine AL.nil ?_
    try simp only [thenS, S.put]
    refine AW.condF rfl ?_
    refine AW.exit ?_
    try simp only [thenS, inBlockS, ↓reduceIte, Nat.reduceEqDiff]
    refine AW.seq ?_
    refine AW.freeze 4 8 ((L.map tell).map encN) rfl rfl rfl (by simp; omega) (by omega) (rows1 rfl) ?_
    refine AW.region ?_
    refine AL.rp rfl rfl (rp_move rfl rfl) ?_
    refine AL.rp rfl rfl (rp_assign rfl rfl) ?_
    refine AL.rp rfl rfl (rp_assign rfl rfl) ?_
    refine AL.nil ?_
    try simp only [thenS, S.put]
    refine AW.ret ?_
    exact ⟨[_, _], ⟨rfl, rfl, trivial⟩, .inl ⟨hall, rfl⟩, by simp [tupOf, V.pure, V.has, V.hasL]⟩

theorem am_FarFrom0 (m : Mach) : Fn Try.prog 34 [mV m] (resI (disE (frD m) m) (disL (frD m) m)) := by
  have hbig := big_eq
  by_cases h0 : machE m = 0
  · obtain ⟨h60, h400, hst, hz⟩ := machE_zero h0
    have hres := fun v => dis_res (D := frD m) (v := v) h0
    have hed : ∀ {q p w}, fEdge (frE m) q p w ↔ _ := fun {q p w} => fr_edge (m := m) (fun s hs a ha => by have := (hz s hs).2 a ha; simp only [arOk, decide_eq_true_eq] at this; omega)
    have hini := @fr_init m
    obtain ⟨st, sts⟩ := m
    simp only at h60 h400 hst hz hed hini
    have hal4 : ∀ x ∈ sts, x.arcs.length ≤ 400 := fun x hx => Nat.le_trans (arcN_mem sts x hx) h400
    have hDD : frD ⟨st, sts⟩ = dstL (fInit (frF ⟨st, sts⟩)) (fEdge (frE ⟨st, sts⟩)) sts.length := rfl
    obtain ⟨D, hD⟩ : ∃ D, frD ⟨st, sts⟩ = D := ⟨_, rfl⟩
    rw [hD] at hres hDD ⊢
    obtain ⟨I, hI⟩ : ∃ I, fInit (frF ⟨st, sts⟩) = I := ⟨_, rfl⟩
    obtain ⟨G, hG⟩ : ∃ G, fEdge (frE ⟨st, sts⟩) = G := ⟨_, rfl⟩
    rw [hI] at hini hDD
    rw [hG] at hed hDD
    obtain ⟨n, hn⟩ : ∃ n, sts.length = n := ⟨_, rfl⟩
    rw [hn] at h60 hst hz hDD hini
    have hin : ∀ q p w, G q p w → q < n ∧ p < n := by
      intro q p w h
      obtain ⟨x, j, a, h1, h2, h3, h4⟩ := hed.1 h
      have h5 := (hz x (List.mem_of_getElem? h1)).2 a (List.mem_of_getElem? h2)
      simp only [arOk, decide_eq_true_eq] at h5
      exact ⟨by rw [← hn]; exact (List.getElem?_eq_some_iff.1 h1).1, by omega⟩
    refine Fn.intro (n := 107) ⟨Try.func34, rfl, rfl, rfl, rfl⟩ (by simp [V.pure, V.has, V.hasL]) (by simp) fun w0 out => ?_
    refine AW.seq ?_
    refine AW.region ?_
    refine AL.sm rfl (sm_box 1 rfl rfl rfl (by first | rfl | simp [S.clean, S.put, S.newObj, S.forget, V.has, V.hasL, junkIf, setL, V.cs, hasL_i, hasL_b, hasL_s, hasL_n, hasL_rep, hasL_flat, hasL_append, -List.map_set]) rfl) ?_
    refine AL.rp rfl rfl (rp_assign rfl rfl) ?_
    refine AL.rp rfl rfl (rp_assign rfl rfl) ?_
    refine AL.nil ?_
    try simp only [thenS, S.put, S.newObj, setL, V.cs, List.length_cons, List.length_nil, List.take_succ_cons, List.take_zero, List.drop_succ_cons, List.drop_zero, List.drop_nil, List.nil_append, List.cons_append, List.append_nil, Nat.zero_add, Nat.reduceAdd, List.map_cons, List.map_nil, List.set_cons_zero, List.set_cons_succ, enum]
    refine AW.seq ?_
    refine AW.region ?_
    (first | (refine AL.rd rfl rfl (rd_loads_ref Try.underlying24 rfl inf24 rfl rfl rfl rfl rfl rfl) ?_) | (refine AL.rd rfl rfl (rd_loads_ad Try.underlying24 rfl inf24 rfl rfl rfl rfl) ?_))
    refine AL.call (post := ?pc3) rfl (sm_call (args := [_]) ?hc3 ⟨Try.func50, rfl, rfl, rfl, rfl⟩ rfl rfl rfl rfl) ?_
    case hc3 => exact Fn.eqi (am_Fault ⟨st, sts⟩) h0
    rintro _ rfl -
    try dsimp only
    refine AL.rp rfl rfl (rp_assign rfl rfl) ?_
    refine AL.nil ?_
    try simp only [thenS, S.put, S.newObj, setL, V.cs, List.length_cons, List.length_nil, List.take_succ_cons, List.take_zero, List.drop_succ_cons, List.drop_zero, List.drop_nil, List.nil_append, List.cons_append, List.append_nil, Nat.zero_add, Nat.reduceAdd, List.map_cons, List.map_nil, List.set_cons_zero, List.set_cons_succ]
    refine AW.seq ?_
    refine AW.seq ?_
    refine AW.region ?_
    refine AL.rp rfl rfl (rp_move rfl rfl) ?_
    (first | (refine AL.rp rfl rfl (rp_neqT rfl rfl rfl (by first | assumption | omega)) ?_) | (refine AL.rp rfl rfl (rp_neqF rfl rfl rfl (by first | assumption | omega)) ?_) | (refine AL.rp rfl rfl (rp_neq rfl rfl rfl) ?_))
    refine AL.nil ?_
    try simp only [thenS, S.put]
    refine AW.condF rfl ?_
    refine AW.skip ?_
    try simp only [thenS]
    refine AW.seq ?_
    refine AW.region ?_
    (first | (refine AL.rp rfl rfl (rp_field_ref Try.underlying24 rfl rfl rfl inf22 (by decide) rfl) ?_) | (refine AL.rp rfl rfl (rp_field_ad Try.underlying24 rfl rfl rfl inf22 (by decide) rfl) ?_))
    (first | (refine AL.rd rfl rfl (rd_load_ref Try.underlying22 rfl rfl rfl rfl rfl rfl) ?_) | (refine AL.rd rfl rfl (rd_load_ad Try.underlying22 rfl rfl rfl rfl) ?_) | (refine AL.rd rfl rfl (rd_load_map Try.underlying22 rfl rfl rfl rfl rfl rfl (by assumption)) ?_))
    (first | (refine AL.rp rfl rfl (rp_len_map Try.underlying22 rfl rfl (by assumption)) ?_) | (refine AL.rp rfl rfl (rp_len_own Try.underlying22 rfl rfl) ?_) | (refine AL.rp rfl rfl (rp_len_sl Try.underlying22 rfl rfl) ?_) | (refine AL.rp rfl rfl (rp_len_nil Try.underlying22 rfl rfl) ?_) | (refine AL.rp rfl rfl (rp_len_str Try.underlying22 rfl rfl) ?_))
    refine AL.rp rfl rfl (rp_assign rfl rfl) ?_
    refine AL.nil ?_
    try simp only [thenS, S.put]
    refine AW.seq ?_
    refine AW.region ?_
    refine AL.rp rfl rfl (rp_move rfl rfl) ?_
    refine AL.sm rfl (sm_make_map 23 V.i (0) Try.underlying41 inf3 rfl rfl rfl rfl rfl (by omega) (by decide) (by first | rfl | simp [S.clean, S.put, S.newObj, S.forget, V.has, V.hasL, junkIf, setL, V.cs, hasL_i, hasL_b, hasL_s, hasL_n, hasL_rep, hasL_flat, hasL_append, -List.map_set]) rfl) ?_
    refine AL.rp rfl rfl (rp_assign rfl rfl) ?_
    refine AL.nil ?_
    try simp only [thenS, S.put, S.newObj, setL, V.cs, List.length_cons, List.length_nil, List.take_succ_cons, List.take_zero, List.drop_succ_cons, List.drop_zero, List.drop_nil, List.nil_append, List.cons_append, List.append_nil, Nat.zero_add, Nat.reduceAdd, List.map_cons, List.map_nil, List.set_cons_zero, List.set_cons_succ]
    refine AW.seq ?_
    refine AW.seq ?_
    refine AW.region ?_
    refine AL.rp rfl rfl (rp_assign rfl rfl) ?_
    refine AL.nil ?_
    try simp only [thenS, S.put]
    refine AW.block ?_
    refine AW.loop (fun s' => ∃ k : Nat, k ≤ n ∧ s' = ⟨107, [(1, .ref 1 0), (5, .i n), (6, .own 23 1 n false), (7, .i k)], [(1, ⟨24, [.i st, .d (stsD sts)], false, 0⟩), (23, ⟨3, (part (fun _ => big) k (List.replicate n 0)).map V.n, false, 1⟩)], []⟩) (fun s' => n - s'.nat 7) ⟨_, ?_, 0, by omega, rfl⟩ ?_
    · have hz0 : (List.replicate n (0 : Int)).map V.i = (List.replicate n 0).map V.n := by simp
      rw [hz0, part_zero]
      exact (Less.of rfl (by repeat (first | exact trivial | refine ⟨⟨_, rfl, Wk.refl _⟩, ?_⟩ | refine ⟨⟨_, rfl, Wk.nil _ _⟩, ?_⟩ | refine ⟨⟨_, rfl, Wk.junk _⟩, ?_⟩)) (by repeat (first | exact trivial | refine ⟨rfl, ?_⟩)) rfl)
    rintro s' ⟨k, hk, rfl⟩
    by_cases hlt : k < n
    · have hx0 : (List.replicate n 0)[k]? = some 0 := by simp [List.getElem?_replicate, hlt]
      have hst2 := part_set (f := fun _ => big) hx0
      have hpl : k < (part (fun _ => big) k (List.replicate n 0)).length := by rw [part_len]; simpa using hlt
      refine AW.seq ?_
      refine AW.seq ?_
      refine AW.region ?_
      refine AL.rp rfl rfl (rp_move rfl rfl) ?_
      refine AL.rp rfl rfl (rp_move rfl rfl) ?_
      (first | (refine AL.rp rfl rfl (rp_lssT rfl rfl rfl (by first | assumption | omega)) ?_) | (refine AL.rp rfl rfl (rp_lssF rfl rfl rfl (by first | assumption | omega)) ?_) | (refine AL.rp rfl rfl (rp_lss rfl rfl rfl) ?_))
      refine AL.nil ?_
      try simp only [thenS, S.put]
      refine AW.condT rfl ?_
      refine AW.skip ?_
      try simp only [thenS]
      refine AW.seq ?_
      refine AW.block ?_
      refine AW.region ?_
      refine AL.rp rfl rfl (rp_move rfl rfl) ?_
      refine AL.rp rfl rfl (rp_move rfl rfl) ?_
      (first | (refine AL.rp rfl rfl (rp_index_map Try.underlying41 inf3 rfl rfl rfl rfl (by assumption)) ?_) | (refine AL.rp rfl rfl (rp_index_own Try.underlying41 inf3 rfl rfl rfl rfl (by first | assumption | omega)) ?_) | (refine AL.rp rfl rfl (rd_index_sl Try.underlying41 inf3 rfl rfl rfl rfl (by assumption)) ?_) | (refine AL.rp rfl rfl (rp_index_own Try.underlying41 inf3 rfl rfl rfl (by omega) (by omega)) ?_))
      refine AL.st rfl (st_store_map2 (v := big) inf3 rfl rfl rfl rfl rfl rfl rfl rfl (by first | assumption | omega)) ?_
      refine AL.nil ?_
      try simp only [thenS, S.put, S.newObj, setL, V.cs, List.length_cons, List.length_nil, List.take_succ_cons, List.take_zero, List.drop_succ_cons, List.drop_zero, List.drop_nil, List.nil_append, List.cons_append, List.append_nil, Nat.zero_add, Nat.reduceAdd, List.map_cons, List.map_nil, List.set_cons_zero, List.set_cons_succ]
      refine AW.region ?_
      refine AL.rp rfl rfl (rp_move rfl rfl) ?_
      refine AL.rp rfl rfl (rp_add rfl rfl rfl (by omega)) ?_
      refine AL.rp rfl rfl (rp_assign rfl rfl) ?_
      refine AL.nil ?_
      try simp only [thenS, S.put]
      refine ⟨_, ?_, ⟨k + 1, by omega, rfl⟩, ?_⟩
      · rw [← hst2]; exact (Less.of rfl (by repeat (first | exact trivial | refine ⟨⟨_, rfl, Wk.refl _⟩, ?_⟩ | refine ⟨⟨_, rfl, Wk.nil _ _⟩, ?_⟩ | refine ⟨⟨_, rfl, Wk.junk _⟩, ?_⟩)) (by repeat (first | exact trivial | refine ⟨rfl, ?_⟩)) rfl)
      · simp [S.nat, fnd]; omega
    · obtain rfl : k = n := by omega
      obtain ⟨n, rfl⟩ : ∃ n, n = k := ⟨_, rfl⟩
      rw [part_full _ (by simp), List.map_replicate]
      refine AW.seq ?_
      refine AW.seq ?_
      refine AW.region ?_
      refine AL.rp rfl rfl (rp_move rfl rfl) ?_
      refine AL.rp rfl rfl (rp_move rfl rfl) ?_
      (first | (refine AL.rp rfl rfl (rp_lssT rfl rfl rfl (by first | assumption | omega)) ?_) | (refine AL.rp rfl rfl (rp_lssF rfl rfl rfl (by first | assumption | omega)) ?_) | (refine AL.rp rfl rfl (rp_lss rfl rfl rfl) ?_))
      refine AL.nil ?_
      try simp only [thenS, S.put]
      refine AW.condF rfl ?_
      refine AW.exit ?_
      try simp only [thenS, inBlockS, ↓reduceIte, Nat.reduceEqDiff]
      refine AW.seqc (fun s' => ∃ L : List Nat, Snd I G n L ∧ s' = ⟨107, [(1, .ref 1 0), (5, .i n), (6, .own 23 1 n false)], [(1, ⟨24, [.i st, .d (stsD sts)], false, 0⟩), (23, ⟨3, L.map V.n, false, 1⟩)], []⟩) ?_ ?_
      · skip
        by_cases hs0 : 0 ≤ st
        · obtain ⟨p, rfl⟩ : ∃ p : Nat, st = p := ⟨st.toNat, by omega⟩
          have hpn : p < n := by omega
          have hpl : p < (List.replicate n big).length := by simpa using hpn
          refine AW.seq ?_
          refine AW.region ?_
          (first | (refine AL.rp rfl rfl (rp_field_ref Try.underlying24 rfl rfl rfl inf3 (by decide) rfl) ?_) | (refine AL.rp rfl rfl (rp_field_ad Try.underlying24 rfl rfl rfl inf3 (by decide) rfl) ?_))
          (first | (refine AL.rd rfl rfl (rd_load_ref Try.underlying3 rfl rfl rfl rfl rfl rfl) ?_) | (refine AL.rd rfl rfl (rd_load_ad Try.underlying3 rfl rfl rfl rfl) ?_) | (refine AL.rd rfl rfl (rd_load_map Try.underlying3 rfl rfl rfl rfl rfl rfl (by assumption)) ?_))
          (first | (refine AL.rp rfl rfl (rp_geqT rfl rfl rfl (by first | assumption | omega)) ?_) | (refine AL.rp rfl rfl (rp_geqF rfl rfl rfl (by first | assumption | omega)) ?_) | (refine AL.rp rfl rfl (rp_geq rfl rfl rfl) ?_))
          refine AL.nil ?_
          try simp only [thenS, S.put]
          refine AW.condT rfl ?_
          refine AW.region ?_
          refine AL.rp rfl rfl (rp_move rfl rfl) ?_
          (first | (refine AL.rp rfl rfl (rp_field_ref Try.underlying24 rfl rfl rfl inf3 (by decide) rfl) ?_) | (refine AL.rp rfl rfl (rp_field_ad Try.underlying24 rfl rfl rfl inf3 (by decide) rfl) ?_))
          (first | (refine AL.rd rfl rfl (rd_load_ref Try.underlying3 rfl rfl rfl rfl rfl rfl) ?_) | (refine AL.rd rfl rfl (rd_load_ad Try.underlying3 rfl rfl rfl rfl) ?_) | (refine AL.rd rfl rfl (rd_load_map Try.underlying3 rfl rfl rfl rfl rfl rfl (by assumption)) ?_))
          (first | (refine AL.rp rfl rfl (rp_index_map Try.underlying41 inf3 rfl rfl rfl rfl (by assumption)) ?_) | (refine AL.rp rfl rfl (rp_index_own Try.underlying41 inf3 rfl rfl rfl rfl (by first | assumption | omega)) ?_) | (refine AL.rp rfl rfl (rd_index_sl Try.underlying41 inf3 rfl rfl rfl rfl (by assumption)) ?_) | (refine AL.rp rfl rfl (rp_index_own Try.underlying41 inf3 rfl rfl rfl (by omega) (by omega)) ?_))
          refine AL.st rfl (st_store_map2 (v := 0) inf3 rfl rfl rfl rfl rfl rfl rfl rfl (by first | assumption | omega)) ?_
          refine AL.nil ?_
          try simp only [thenS, S.put, S.newObj, setL, V.cs, List.length_cons, List.length_nil, List.take_succ_cons, List.take_zero, List.drop_succ_cons, List.drop_zero, List.drop_nil, List.nil_append, List.cons_append, List.append_nil, Nat.zero_add, Nat.reduceAdd, List.map_cons, List.map_nil, List.set_cons_zero, List.set_cons_succ]
          refine ⟨_, ?_, (List.replicate n big).set p 0, ⟨by simp, fun q x hx => ?_, fun q x hx hb => ?_, fun q x d hx hd => ?_⟩, rfl⟩
          · exact (Less.of rfl (by repeat (first | exact trivial | refine ⟨⟨_, rfl, Wk.refl _⟩, ?_⟩ | refine ⟨⟨_, rfl, Wk.nil _ _⟩, ?_⟩ | refine ⟨⟨_, rfl, Wk.junk _⟩, ?_⟩)) (by repeat (first | exact trivial | refine ⟨rfl, ?_⟩)) rfl)
          all_goals
            rw [List.getElem?_set] at hx
            by_cases e : p = q
            · subst e
              simp [hpn] at hx
              subst hx
              first | omega | exact .init p 0 (hini.2 ⟨hpn, rfl, rfl⟩)
            · rw [if_neg e, List.getElem?_replicate] at hx
              split at hx
              · simp only [Option.some.injEq] at hx
                subst hx
                first
                  | omega
                  | (obtain ⟨_, h2, _⟩ := hini.1 hd; omega)
              · cases hx
        · skip
          refine AW.seq ?_
          refine AW.region ?_
          (first | (refine AL.rp rfl rfl (rp_field_ref Try.underlying24 rfl rfl rfl inf3 (by decide) rfl) ?_) | (refine AL.rp rfl rfl (rp_field_ad Try.underlying24 rfl rfl rfl inf3 (by decide) rfl) ?_))
          (first | (refine AL.rd rfl rfl (rd_load_ref Try.underlying3 rfl rfl rfl rfl rfl rfl) ?_) | (refine AL.rd rfl rfl (rd_load_ad Try.underlying3 rfl rfl rfl rfl) ?_) | (refine AL.rd rfl rfl (rd_load_map Try.underlying3 rfl rfl rfl rfl rfl rfl (by assumption)) ?_))
          (first | (refine AL.rp rfl rfl (rp_geqT rfl rfl rfl (by first | assumption | omega)) ?_) | (refine AL.rp rfl rfl (rp_geqF rfl rfl rfl (by first | assumption | omega)) ?_) | (refine AL.rp rfl rfl (rp_geq rfl rfl rfl) ?_))
          refine AL.nil ?_
          try simp only [thenS, S.put]
          refine AW.condF rfl ?_
          refine AW.skip ?_
          try simp only [thenS]
          refine ⟨_, ?_, List.replicate n big, ⟨by simp, fun q x hx => ?_, fun q x hx hb => ?_, fun q x d hx hd => ?_⟩, rfl⟩
          · exact (Less.of rfl (by repeat (first | exact trivial | refine ⟨⟨_, rfl, Wk.refl _⟩, ?_⟩ | refine ⟨⟨_, rfl, Wk.nil _ _⟩, ?_⟩ | refine ⟨⟨_, rfl, Wk.junk _⟩, ?_⟩)) (by repeat (first | exact trivial | refine ⟨rfl, ?_⟩)) rfl)
          all_goals
            rw [List.getElem?_replicate] at hx
            split at hx
            · simp only [Option.some.injEq] at hx
              subst hx
              first
                | omega
                | (obtain ⟨_, h2, _⟩ := hini.1 hd; omega)
            · cases hx
      · rintro s' ⟨L, hL, rfl⟩
        refine AW.seq ?_
        refine AW.seq ?_
        refine AW.region ?_
        refine AL.rp rfl rfl (rp_assign rfl rfl) ?_
        refine AL.nil ?_
        try simp only [thenS, S.put]
        refine AW.block ?_
        refine AW.loop (fun s' => ∃ (k : Nat) (L : List Nat), k ≤ n ∧ Snd I G n L ∧ (k ≤ stlN I G L n ∨ Lst I G n L) ∧ s' = ⟨107, [(1, .ref 1 0), (5, .i n), (6, .own 23 1 n false), (8, .i k)], [(1, ⟨24, [.i st, .d (stsD sts)], false, 0⟩), (23, ⟨3, L.map V.n, false, 1⟩)], []⟩) (fun s' => n - s'.nat 8) ⟨_, ?_, 0, L, by omega, hL, .inl (by omega), rfl⟩ ?_
        · exact (Less.of rfl (by repeat (first | exact trivial | refine ⟨⟨_, rfl, Wk.refl _⟩, ?_⟩ | refine ⟨⟨_, rfl, Wk.nil _ _⟩, ?_⟩ | refine ⟨⟨_, rfl, Wk.junk _⟩, ?_⟩)) (by repeat (first | exact trivial | refine ⟨rfl, ?_⟩)) rfl)
        rintro s' ⟨k, L0, hk, hL0, hc, rfl⟩
        by_cases hlt : k < n
        · skip
          refine AW.seq ?_
          refine AW.seq ?_
          refine AW.region ?_
          refine AL.rp rfl rfl (rp_move rfl rfl) ?_
          refine AL.rp rfl rfl (rp_move rfl rfl) ?_
          (first | (refine AL.rp rfl rfl (rp_lssT rfl rfl rfl (by first | assumption | omega)) ?_) | (refine AL.rp rfl rfl (rp_lssF rfl rfl rfl (by first | assumption | omega)) ?_) | (refine AL.rp rfl rfl (rp_lss rfl rfl rfl) ?_))
          refine AL.nil ?_
          try simp only [thenS, S.put]
          refine AW.condT rfl ?_
          refine AW.skip ?_
          try simp only [thenS]
          refine AW.seq ?_
          refine AW.block ?_
          refine AW.seq ?_
          refine AW.region ?_
          refine AL.rp rfl rfl (rp_assign rfl rfl) ?_
          refine AL.nil ?_
          try simp only [thenS, S.put]
          refine AW.block ?_
          refine AW.loop (fun s' => ∃ (q : Nat) (L : List Nat), q ≤ n ∧ Rd I G n k L0 (fun q' _ _ => q' < q) L ∧ s' = ⟨107, [(1, .ref 1 0), (5, .i n), (6, .own 23 1 n false), (8, .i k), (9, .i q)], [(1, ⟨24, [.i st, .d (stsD sts)], false, 0⟩), (23, ⟨3, L.map V.n, false, 1⟩)], []⟩) (fun s' => n - s'.nat 9) ⟨_, ?_, 0, L0, by omega, (Rd.begin hL0 hc).skip (fun q p w x y h => absurd h (by omega)), rfl⟩ ?_
          · exact (Less.of rfl (by repeat (first | exact trivial | refine ⟨⟨_, rfl, Wk.refl _⟩, ?_⟩ | refine ⟨⟨_, rfl, Wk.nil _ _⟩, ?_⟩ | refine ⟨⟨_, rfl, Wk.junk _⟩, ?_⟩)) (by repeat (first | exact trivial | refine ⟨rfl, ?_⟩)) rfl)
          rintro s' ⟨q, L, hq, hR, rfl⟩
          by_cases hlq : q < n
          · obtain ⟨x, hx⟩ := get_lt hn hlq
            obtain ⟨la, hla⟩ : ∃ n, x.arcs.length = n := ⟨_, rfl⟩
            have hla' := hal4 x (List.mem_of_getElem? hx)
            rw [hla] at hla'
            have edge_q : ∀ {p w : Nat}, G q p w → ∃ (j : Nat) (a : Ar), x.arcs[j]? = some a ∧ a.t = (p : Int) ∧ a.w = (w : Int) := by
              intro p w h
              obtain ⟨x', j, a, h1, h2, h3, h4⟩ := hed.1 h
              rw [hx] at h1
              simp only [Option.some.injEq] at h1
              subst h1
              exact ⟨j, a, h2, h3, h4⟩
            refine AW.seq ?_
            refine AW.seq ?_
            refine AW.region ?_
            refine AL.rp rfl rfl (rp_move rfl rfl) ?_
            refine AL.rp rfl rfl (rp_move rfl rfl) ?_
            (first | (refine AL.rp rfl rfl (rp_lssT rfl rfl rfl (by first | assumption | omega)) ?_) | (refine AL.rp rfl rfl (rp_lssF rfl rfl rfl (by first | assumption | omega)) ?_) | (refine AL.rp rfl rfl (rp_lss rfl rfl rfl) ?_))
            refine AL.nil ?_
            try simp only [thenS, S.put]
            refine AW.condT rfl ?_
            refine AW.skip ?_
            try simp only [thenS]
            refine AW.seq ?_
            refine AW.block ?_
            refine AW.seq ?_
            refine AW.region ?_
            refine AL.rp rfl rfl (rp_assign rfl rfl) ?_
            refine AL.nil ?_
            try simp only [thenS, S.put]
            refine AW.block ?_
            refine AW.loop (fun s' => ∃ (i : Nat) (L : List Nat), i ≤ la ∧ Rd I G n k L0 (fun q' p w => q' < q ∨ q' = q ∧ ∃ (j : Nat) (a : Ar), j < i ∧ x.arcs[j]? = some a ∧ a.t = (p : Int) ∧ a.w = (w : Int)) L ∧ s' = ⟨107, [(1, .ref 1 0), (5, .i n), (6, .own 23 1 n false), (8, .i k), (9, .i q), (10, .i i)], [(1, ⟨24, [.i st, .d (stsD sts)], false, 0⟩), (23, ⟨3, L.map V.n, false, 1⟩)], []⟩) (fun s' => la - s'.nat 10) ⟨_, ?_, 0, L, by omega, hR.skip (fun q' p w a b h => ?_), rfl⟩ ?_
            · exact (Less.of rfl (by repeat (first | exact trivial | refine ⟨⟨_, rfl, Wk.refl _⟩, ?_⟩ | refine ⟨⟨_, rfl, Wk.nil _ _⟩, ?_⟩ | refine ⟨⟨_, rfl, Wk.junk _⟩, ?_⟩)) (by repeat (first | exact trivial | refine ⟨rfl, ?_⟩)) rfl)
            · rcases h with h | ⟨_, j, _, h, _⟩
              · exact .inl h
              · exact absurd h (by omega)
            rintro s' ⟨i, L, hi, hR, rfl⟩
            obtain ⟨d, hd⟩ := get_lt hR.snd.len hlq
            have hdb := hR.snd.le q d hd
            by_cases hil : i < la
            · obtain ⟨y, hy⟩ := get_lt hla hil
              have hyt := (hz x (List.mem_of_getElem? hx)).2 y (List.mem_of_getElem? hy)
              obtain ⟨yi, yo, yw, yt⟩ := y
              simp only [arOk, decide_eq_true_eq] at hyt
              obtain ⟨p, rfl⟩ : ∃ p : Nat, yt = p := ⟨yt.toNat, by omega⟩
              obtain ⟨w, rfl⟩ : ∃ w : Nat, yw = w := ⟨yw.toNat, by omega⟩
              have hpn : p < n := by omega
              obtain ⟨c, hcp⟩ := get_lt hR.snd.len hpn
              have hcb := hR.snd.le p c hcp
              have hpL : p < L.length := by rw [hR.snd.len]; exact hpn
              have hG1 : G q p w := hed.2 ⟨x, i, _, hx, hy, rfl, rfl⟩
              by_cases hnone : d = big
              · have hR' : Rd I G n k L0 (fun q' _ _ => q' < q + 1) L := hR.skip fun q' p' w' x0 y0 h => by
                  by_cases e : q' = q
                  · subst e
                    refine .inr fun _ h1 h2 => ?_
                    have := hR.low q' d x0 hd h1
                    have := hR.snd.le p' y0 h2
                    omega
                  · exact .inl (.inl (by omega))
                refine AW.seq ?_
                refine AW.seq ?_
                refine AW.region ?_
                refine AL.rp rfl rfl (rp_move rfl rfl) ?_
                (first | (refine AL.rp rfl rfl (rp_field_ref Try.underlying24 rfl rfl rfl inf22 (by decide) rfl) ?_) | (refine AL.rp rfl rfl (rp_field_ad Try.underlying24 rfl rfl rfl inf22 (by decide) rfl) ?_))
                (first | (refine AL.rd rfl rfl (rd_load_ref Try.underlying22 rfl rfl rfl rfl rfl rfl) ?_) | (refine AL.rd rfl rfl (rd_load_ad Try.underlying22 rfl rfl rfl rfl) ?_) | (refine AL.rd rfl rfl (rd_load_map Try.underlying22 rfl rfl rfl rfl rfl rfl (by assumption)) ?_))
                refine AL.rp rfl rfl (rp_move rfl rfl) ?_
                (first | (refine AL.rp rfl rfl (rp_index_map Try.underlying22 inf62 rfl rfl rfl rfl (by assumption)) ?_) | (refine AL.rp rfl rfl (rp_index_own Try.underlying22 inf62 rfl rfl rfl rfl (by first | assumption | omega)) ?_) | (refine AL.rp rfl rfl (rd_index_sl Try.underlying22 inf62 rfl rfl rfl rfl (by assumption)) ?_) | (refine AL.rp rfl rfl (rp_index_own Try.underlying22 inf62 rfl rfl rfl (by omega) (by omega)) ?_))
                (first | (refine AL.rp rfl rfl (rp_field_ref Try.underlying62 rfl rfl rfl inf60 (by decide) rfl) ?_) | (refine AL.rp rfl rfl (rp_field_ad Try.underlying62 rfl rfl rfl inf60 (by decide) rfl) ?_))
                (first | (refine AL.rd rfl rfl (rd_load_ref Try.underlying60 rfl rfl rfl rfl rfl rfl) ?_) | (refine AL.rd rfl rfl (rd_load_ad Try.underlying60 rfl rfl rfl rfl) ?_) | (refine AL.rd rfl rfl (rd_load_map Try.underlying60 rfl rfl rfl rfl rfl rfl (by assumption)) ?_))
                (first | (refine AL.rp rfl rfl (rp_len_map Try.underlying60 rfl rfl (by assumption)) ?_) | (refine AL.rp rfl rfl (rp_len_own Try.underlying60 rfl rfl) ?_) | (refine AL.rp rfl rfl (rp_len_sl Try.underlying60 rfl rfl) ?_) | (refine AL.rp rfl rfl (rp_len_nil Try.underlying60 rfl rfl) ?_) | (refine AL.rp rfl rfl (rp_len_str Try.underlying60 rfl rfl) ?_))
                (first | (refine AL.rp rfl rfl (rp_lssT rfl rfl rfl (by first | assumption | omega)) ?_) | (refine AL.rp rfl rfl (rp_lssF rfl rfl rfl (by first | assumption | omega)) ?_) | (refine AL.rp rfl rfl (rp_lss rfl rfl rfl) ?_))
                refine AL.rp rfl rfl (rp_move rfl rfl) ?_
                (first | (refine AL.no rfl rfl rfl rfl ?_) | (refine AL.rpy rfl rfl rfl (rp_move rfl rfl) ?_))
                (first | (refine AL.no rfl rfl rfl rfl ?_) | (refine AL.rpy rfl rfl rfl (rp_move rfl rfl) ?_))
                (first | (refine AL.no rfl rfl rfl rfl ?_) | (refine AL.rpy rfl rfl rfl (rp_index_map Try.underlying41 inf3 rfl rfl rfl rfl (by assumption)) ?_) | (refine AL.rpy rfl rfl rfl (rp_index_own Try.underlying41 inf3 rfl rfl rfl rfl (by first | assumption | omega)) ?_) | (refine AL.rpy rfl rfl rfl (rd_index_sl Try.underlying41 inf3 rfl rfl rfl rfl (by assumption)) ?_) | (refine AL.rpy rfl rfl rfl (rp_index_own Try.underlying41 inf3 rfl rfl rfl (by omega) (by omega)) ?_))
                (first | (refine AL.no rfl rfl rfl rfl ?_) | (refine AL.rdy rfl rfl rfl (rd_load_ref Try.underlying3 rfl rfl rfl rfl rfl rfl) ?_) | (refine AL.rdy rfl rfl rfl (rd_load_ad Try.underlying3 rfl rfl rfl rfl) ?_) | (refine AL.rdy rfl rfl rfl (rd_load_map Try.underlying3 rfl rfl rfl rfl rfl rfl (by assumption)) ?_))
                (first | (refine AL.no rfl rfl rfl rfl ?_) | (refine AL.rpy rfl rfl rfl (rp_neqT rfl rfl rfl (by first | assumption | omega)) ?_) | (refine AL.rpy rfl rfl rfl (rp_neqF rfl rfl rfl (by first | assumption | omega)) ?_) | (refine AL.rpy rfl rfl rfl (rp_neq rfl rfl rfl) ?_))
                refine AL.rp rfl rfl (rp_pick rfl rfl rfl) ?_
                refine AL.nil ?_
                try simp only [thenS, S.put]
                refine AW.condF rfl ?_
                refine AW.exit ?_
                try simp only [thenS, inBlockS, ↓reduceIte, Nat.reduceEqDiff]
                refine AW.region ?_
                refine AL.rp rfl rfl (rp_move rfl rfl) ?_
                refine AL.rp rfl rfl (rp_add rfl rfl rfl (by omega)) ?_
                refine AL.rp rfl rfl (rp_assign rfl rfl) ?_
                refine AL.nil ?_
                try simp only [thenS, S.put]
                refine ⟨_, ?_, ⟨q + 1, L, by omega, hR', rfl⟩, ?_⟩
                · exact (Less.of rfl (by repeat (first | exact trivial | refine ⟨⟨_, rfl, Wk.refl _⟩, ?_⟩ | refine ⟨⟨_, rfl, Wk.nil _ _⟩, ?_⟩ | refine ⟨⟨_, rfl, Wk.junk _⟩, ?_⟩)) (by repeat (first | exact trivial | refine ⟨rfl, ?_⟩)) rfl)
                · simp [S.nat, fnd]; omega
              · by_cases hless : d + w < c
                · have hR' := hR.set hG1 hd (by omega) (fun y0 h => by rw [hcp] at h; simp only [Option.some.injEq] at h; omega) hpn (D' := fun q' p w => q' < q ∨ q' = q ∧ ∃ (j : Nat) (a : Ar), j < i + 1 ∧ x.arcs[j]? = some a ∧ a.t = (p : Int) ∧ a.w = (w : Int)) (fun q' p' w' h => by
                    rcases h with h | ⟨h1, j, a, h2, h3, h4, h5⟩
                    · exact .inl (.inl h)
                    · by_cases e : j = i
                      · subst e
                        rw [hy] at h3
                        simp only [Option.some.injEq] at h3
                        subst h3
                        simp only at h4 h5
                        exact .inr ⟨h1, by omega, by omega⟩
                      · exact .inl (.inr ⟨h1, j, a, by omega, h3, h4, h5⟩))
                  refine AW.seq ?_
                  refine AW.seq ?_
                  refine AW.region ?_
                  refine AL.rp rfl rfl (rp_move rfl rfl) ?_
                  (first | (refine AL.rp rfl rfl (rp_field_ref Try.underlying24 rfl rfl rfl inf22 (by decide) rfl) ?_) | (refine AL.rp rfl rfl (rp_field_ad Try.underlying24 rfl rfl rfl inf22 (by decide) rfl) ?_))
                  (first | (refine AL.rd rfl rfl (rd_load_ref Try.underlying22 rfl rfl rfl rfl rfl rfl) ?_) | (refine AL.rd rfl rfl (rd_load_ad Try.underlying22 rfl rfl rfl rfl) ?_) | (refine AL.rd rfl rfl (rd_load_map Try.underlying22 rfl rfl rfl rfl rfl rfl (by assumption)) ?_))
                  refine AL.rp rfl rfl (rp_move rfl rfl) ?_
                  (first | (refine AL.rp rfl rfl (rp_index_map Try.underlying22 inf62 rfl rfl rfl rfl (by assumption)) ?_) | (refine AL.rp rfl rfl (rp_index_own Try.underlying22 inf62 rfl rfl rfl rfl (by first | assumption | omega)) ?_) | (refine AL.rp rfl rfl (rd_index_sl Try.underlying22 inf62 rfl rfl rfl rfl (by assumption)) ?_) | (refine AL.rp rfl rfl (rp_index_own Try.underlying22 inf62 rfl rfl rfl (by omega) (by omega)) ?_))
                  (first | (refine AL.rp rfl rfl (rp_field_ref Try.underlying62 rfl rfl rfl inf60 (by decide) rfl) ?_) | (refine AL.rp rfl rfl (rp_field_ad Try.underlying62 rfl rfl rfl inf60 (by decide) rfl) ?_))
                  (first | (refine AL.rd rfl rfl (rd_load_ref Try.underlying60 rfl rfl rfl rfl rfl rfl) ?_) | (refine AL.rd rfl rfl (rd_load_ad Try.underlying60 rfl rfl rfl rfl) ?_) | (refine AL.rd rfl rfl (rd_load_map Try.underlying60 rfl rfl rfl rfl rfl rfl (by assumption)) ?_))
                  (first | (refine AL.rp rfl rfl (rp_len_map Try.underlying60 rfl rfl (by assumption)) ?_) | (refine AL.rp rfl rfl (rp_len_own Try.underlying60 rfl rfl) ?_) | (refine AL.rp rfl rfl (rp_len_sl Try.underlying60 rfl rfl) ?_) | (refine AL.rp rfl rfl (rp_len_nil Try.underlying60 rfl rfl) ?_) | (refine AL.rp rfl rfl (rp_len_str Try.underlying60 rfl rfl) ?_))
                  (first | (refine AL.rp rfl rfl (rp_lssT rfl rfl rfl (by first | assumption | omega)) ?_) | (refine AL.rp rfl rfl (rp_lssF rfl rfl rfl (by first | assumption | omega)) ?_) | (refine AL.rp rfl rfl (rp_lss rfl rfl rfl) ?_))
                  refine AL.rp rfl rfl (rp_move rfl rfl) ?_
                  (first | (refine AL.no rfl rfl rfl rfl ?_) | (refine AL.rpy rfl rfl rfl (rp_move rfl rfl) ?_))
                  (first | (refine AL.no rfl rfl rfl rfl ?_) | (refine AL.rpy rfl rfl rfl (rp_move rfl rfl) ?_))
                  (first | (refine AL.no rfl rfl rfl rfl ?_) | (refine AL.rpy rfl rfl rfl (rp_index_map Try.underlying41 inf3 rfl rfl rfl rfl (by assumption)) ?_) | (refine AL.rpy rfl rfl rfl (rp_index_own Try.underlying41 inf3 rfl rfl rfl rfl (by first | assumption | omega)) ?_) | (refine AL.rpy rfl rfl rfl (rd_index_sl Try.underlying41 inf3 rfl rfl rfl rfl (by assumption)) ?_) | (refine AL.rpy rfl rfl rfl (rp_index_own Try.underlying41 inf3 rfl rfl rfl (by omega) (by omega)) ?_))
                  (first | (refine AL.no rfl rfl rfl rfl ?_) | (refine AL.rdy rfl rfl rfl (rd_load_ref Try.underlying3 rfl rfl rfl rfl rfl rfl) ?_) | (refine AL.rdy rfl rfl rfl (rd_load_ad Try.underlying3 rfl rfl rfl rfl) ?_) | (refine AL.rdy rfl rfl rfl (rd_load_map Try.underlying3 rfl rfl rfl rfl rfl rfl (by assumption)) ?_))
                  (first | (refine AL.no rfl rfl rfl rfl ?_) | (refine AL.rpy rfl rfl rfl (rp_neqT rfl rfl rfl (by first | assumption | omega)) ?_) | (refine AL.rpy rfl rfl rfl (rp_neqF rfl rfl rfl (by first | assumption | omega)) ?_) | (refine AL.rpy rfl rfl rfl (rp_neq rfl rfl rfl) ?_))
                  refine AL.rp rfl rfl (rp_pick rfl rfl rfl) ?_
                  refine AL.nil ?_
                  try simp only [thenS, S.put]
                  refine AW.condT rfl ?_
                  refine AW.skip ?_
                  try simp only [thenS]
                  refine AW.seq ?_
                  refine AW.block ?_
                  refine AW.seq ?_
                  refine AW.region ?_
                  (first | (refine AL.rp rfl rfl (rp_field_ref Try.underlying24 rfl rfl rfl inf22 (by decide) rfl) ?_) | (refine AL.rp rfl rfl (rp_field_ad Try.underlying24 rfl rfl rfl inf22 (by decide) rfl) ?_))
                  (first | (refine AL.rd rfl rfl (rd_load_ref Try.underlying22 rfl rfl rfl rfl rfl rfl) ?_) | (refine AL.rd rfl rfl (rd_load_ad Try.underlying22 rfl rfl rfl rfl) ?_) | (refine AL.rd rfl rfl (rd_load_map Try.underlying22 rfl rfl rfl rfl rfl rfl (by assumption)) ?_))
                  refine AL.rp rfl rfl (rp_move rfl rfl) ?_
                  (first | (refine AL.rp rfl rfl (rp_index_map Try.underlying22 inf62 rfl rfl rfl rfl (by assumption)) ?_) | (refine AL.rp rfl rfl (rp_index_own Try.underlying22 inf62 rfl rfl rfl rfl (by first | assumption | omega)) ?_) | (refine AL.rp rfl rfl (rd_index_sl Try.underlying22 inf62 rfl rfl rfl rfl (by assumption)) ?_) | (refine AL.rp rfl rfl (rp_index_own Try.underlying22 inf62 rfl rfl rfl (by omega) (by omega)) ?_))
                  (first | (refine AL.rp rfl rfl (rp_field_ref Try.underlying62 rfl rfl rfl inf60 (by decide) rfl) ?_) | (refine AL.rp rfl rfl (rp_field_ad Try.underlying62 rfl rfl rfl inf60 (by decide) rfl) ?_))
                  (first | (refine AL.rd rfl rfl (rd_load_ref Try.underlying60 rfl rfl rfl rfl rfl rfl) ?_) | (refine AL.rd rfl rfl (rd_load_ad Try.underlying60 rfl rfl rfl rfl) ?_) | (refine AL.rd rfl rfl (rd_load_map Try.underlying60 rfl rfl rfl rfl rfl rfl (by assumption)) ?_))
                  refine AL.rp rfl rfl (rp_move rfl rfl) ?_
                  (first | (refine AL.rp rfl rfl (rp_index_map Try.underlying60 inf74 rfl rfl rfl rfl (by assumption)) ?_) | (refine AL.rp rfl rfl (rp_index_own Try.underlying60 inf74 rfl rfl rfl rfl (by first | assumption | omega)) ?_) | (refine AL.rp rfl rfl (rd_index_sl Try.underlying60 inf74 rfl rfl rfl rfl (by assumption)) ?_) | (refine AL.rp rfl rfl (rp_index_own Try.underlying60 inf74 rfl rfl rfl (by omega) (by omega)) ?_))
                  (first | (refine AL.rd rfl rfl (rd_loads_ref Try.underlying74 rfl inf74 rfl rfl rfl rfl rfl rfl) ?_) | (refine AL.rd rfl rfl (rd_loads_ad Try.underlying74 rfl inf74 rfl rfl rfl rfl) ?_))
                  refine AL.sm rfl (sm_alloc (l := [.d (.p (.int .i64 0)), .d (.p (.int .i64 0)), .d (.p (.int .i64 0)), .d (.p (.int .i64 0))]) 11 inf74 rfl (by first | rfl | simp [S.clean, S.put, S.newObj, S.forget, V.has, V.hasL, junkIf, setL, V.cs, hasL_i, hasL_b, hasL_s, hasL_n, hasL_rep, hasL_flat, hasL_append, -List.map_set]) rfl rfl) ?_
                  refine AL.st rfl (st_store_any inf74 rfl rfl rfl rfl rfl rfl rfl rfl (by first | decide | (simp; omega)) rfl) ?_
                  refine AL.nil ?_
                  try simp only [thenS, S.put, S.newObj, setL, V.cs, List.length_cons, List.length_nil, List.take_succ_cons, List.take_zero, List.drop_succ_cons, List.drop_zero, List.drop_nil, List.nil_append, List.cons_append, List.append_nil, Nat.zero_add, Nat.reduceAdd, List.map_cons, List.map_nil, List.set_cons_zero, List.set_cons_succ]
                  refine AW.seq ?_
                  refine AW.draw [(0, true), (1, true), (2, true), (3, true), (4, true), (5, true), (6, true), (7, true), (8, true), (9, true), (10, true), (11, true), (12, true)] (fun i => !([] : List Nat).contains i) 13 (by kernel_rfl) (by kernel_rfl) rfl (by kernel_rfl) ?_
                  refine AD1.rp rfl rfl rfl (fun _ _ h => h) (rp_move rfl rfl) ?_
                  refine AD1.rp rfl rfl rfl (fun _ _ h => h) (rp_move rfl rfl) ?_
                  (first | (refine AD1.rp rfl rfl rfl (fun _ _ h => h) (rp_index_map Try.underlying41 inf3 rfl rfl rfl rfl (by assumption)) ?_) | (refine AD1.rp rfl rfl rfl (fun _ _ h => h) (rp_index_own Try.underlying41 inf3 rfl rfl rfl rfl (by first | assumption | omega)) ?_) | (refine AD1.rp rfl rfl rfl (fun _ _ h => h) (rd_index_sl Try.underlying41 inf3 rfl rfl rfl rfl (by assumption)) ?_) | (refine AD1.rp rfl rfl rfl (fun _ _ h => h) (rp_index_own Try.underlying41 inf3 rfl rfl rfl (by omega) (by omega)) ?_))
                  (first | (refine AD1.rd rfl rfl rfl (fun _ _ h => h) (rd_load_ref Try.underlying3 rfl rfl rfl rfl rfl rfl) ?_) | (refine AD1.rd rfl rfl rfl (fun _ _ h => h) (rd_load_ad Try.underlying3 rfl rfl rfl rfl) ?_) | (refine AD1.rd rfl rfl rfl (fun _ _ h => h) (rd_load_map Try.underlying3 rfl rfl rfl rfl rfl rfl (by assumption)) ?_))
                  (first | (refine AD1.rp rfl rfl rfl (fun _ _ h => h) (rp_field_ref Try.underlying74 rfl rfl rfl inf3 (by decide) rfl) ?_) | (refine AD1.rp rfl rfl rfl (fun _ _ h => h) (rp_field_ad Try.underlying74 rfl rfl rfl inf3 (by decide) rfl) ?_))
                  (first | (refine AD1.rd rfl rfl rfl (fun _ _ h => h) (rd_load_ref Try.underlying3 rfl rfl rfl rfl rfl rfl) ?_) | (refine AD1.rd rfl rfl rfl (fun _ _ h => h) (rd_load_ad Try.underlying3 rfl rfl rfl rfl) ?_) | (refine AD1.rd rfl rfl rfl (fun _ _ h => h) (rd_load_map Try.underlying3 rfl rfl rfl rfl rfl rfl (by assumption)) ?_))
                  refine AD1.rp rfl rfl rfl (fun _ _ h => h) (rp_add rfl rfl rfl (by omega)) ?_
                  refine AD1.rp rfl rfl rfl (fun _ _ h => h) (rp_move rfl rfl) ?_
                  (first | (refine AD1.rp rfl rfl rfl (fun _ _ h => h) (rp_field_ref Try.underlying74 rfl rfl rfl inf3 (by decide) rfl) ?_) | (refine AD1.rp rfl rfl rfl (fun _ _ h => h) (rp_field_ad Try.underlying74 rfl rfl rfl inf3 (by decide) rfl) ?_))
                  (first | (refine AD1.rd rfl rfl rfl (fun _ _ h => h) (rd_load_ref Try.underlying3 rfl rfl rfl rfl rfl rfl) ?_) | (refine AD1.rd rfl rfl rfl (fun _ _ h => h) (rd_load_ad Try.underlying3 rfl rfl rfl rfl) ?_) | (refine AD1.rd rfl rfl rfl (fun _ _ h => h) (rd_load_map Try.underlying3 rfl rfl rfl rfl rfl rfl (by assumption)) ?_))
                  (first | (refine AD1.rp rfl rfl rfl (fun _ _ h => h) (rp_index_map Try.underlying41 inf3 rfl rfl rfl rfl (by assumption)) ?_) | (refine AD1.rp rfl rfl rfl (fun _ _ h => h) (rp_index_own Try.underlying41 inf3 rfl rfl rfl rfl (by first | assumption | omega)) ?_) | (refine AD1.rp rfl rfl rfl (fun _ _ h => h) (rd_index_sl Try.underlying41 inf3 rfl rfl rfl rfl (by assumption)) ?_) | (refine AD1.rp rfl rfl rfl (fun _ _ h => h) (rp_index_own Try.underlying41 inf3 rfl rfl rfl (by omega) (by omega)) ?_))
                  (first | (refine AD1.rd rfl rfl rfl (fun _ _ h => h) (rd_load_ref Try.underlying3 rfl rfl rfl rfl rfl rfl) ?_) | (refine AD1.rd rfl rfl rfl (fun _ _ h => h) (rd_load_ad Try.underlying3 rfl rfl rfl rfl) ?_) | (refine AD1.rd rfl rfl rfl (fun _ _ h => h) (rd_load_map Try.underlying3 rfl rfl rfl rfl rfl rfl (by assumption)) ?_))
                  (first | (refine AD1.rp rfl rfl rfl (fun _ _ h => h) (rp_lssT rfl rfl rfl (by first | assumption | omega)) ?_) | (refine AD1.rp rfl rfl rfl (fun _ _ h => h) (rp_lssF rfl rfl rfl (by first | assumption | omega)) ?_) | (refine AD1.rp rfl rfl rfl (fun _ _ h => h) (rp_lss rfl rfl rfl) ?_))
                  refine AD1.nil ?_
                  try simp only [thenS, S.put]
                  refine AW.condT rfl ?_
                  refine AW.draw [(0, true), (1, true), (2, true), (3, true), (4, true), (5, true), (6, true), (7, true), (8, true), (9, true), (10, true), (11, false)] (fun i => !([11] : List Nat).contains i) 12 (by kernel_rfl) (by kernel_rfl) rfl (by kernel_rfl) ?_
                  refine AD1.rp rfl rfl rfl (fun _ _ h => h) (rp_move rfl rfl) ?_
                  (first | (refine AD1.rp rfl rfl rfl (fun _ _ h => h) (rp_field_ref Try.underlying74 rfl rfl rfl inf3 (by decide) rfl) ?_) | (refine AD1.rp rfl rfl rfl (fun _ _ h => h) (rp_field_ad Try.underlying74 rfl rfl rfl inf3 (by decide) rfl) ?_))
                  (first | (refine AD1.rd rfl rfl rfl (fun _ _ h => h) (rd_load_ref Try.underlying3 rfl rfl rfl rfl rfl rfl) ?_) | (refine AD1.rd rfl rfl rfl (fun _ _ h => h) (rd_load_ad Try.underlying3 rfl rfl rfl rfl) ?_) | (refine AD1.rd rfl rfl rfl (fun _ _ h => h) (rd_load_map Try.underlying3 rfl rfl rfl rfl rfl rfl (by assumption)) ?_))
                  refine AD1.rp rfl rfl rfl (fun _ _ h => h) (rp_move rfl rfl) ?_
                  refine AD1.rp rfl rfl rfl (fun _ _ h => h) (rp_move rfl rfl) ?_
                  (first | (refine AD1.rp rfl rfl rfl (fun _ _ h => h) (rp_index_map Try.underlying41 inf3 rfl rfl rfl rfl (by assumption)) ?_) | (refine AD1.rp rfl rfl rfl (fun _ _ h => h) (rp_index_own Try.underlying41 inf3 rfl rfl rfl rfl (by first | assumption | omega)) ?_) | (refine AD1.rp rfl rfl rfl (fun _ _ h => h) (rd_index_sl Try.underlying41 inf3 rfl rfl rfl rfl (by assumption)) ?_) | (refine AD1.rp rfl rfl rfl (fun _ _ h => h) (rp_index_own Try.underlying41 inf3 rfl rfl rfl (by omega) (by omega)) ?_))
                  (first | (refine AD1.rd rfl rfl rfl (fun _ _ h => h) (rd_load_ref Try.underlying3 rfl rfl rfl rfl rfl rfl) ?_) | (refine AD1.rd rfl rfl rfl (fun _ _ h => h) (rd_load_ad Try.underlying3 rfl rfl rfl rfl) ?_) | (refine AD1.rd rfl rfl rfl (fun _ _ h => h) (rd_load_map Try.underlying3 rfl rfl rfl rfl rfl rfl (by assumption)) ?_))
                  (first | (refine AD1.rp rfl rfl rfl (fun _ _ h => h) (rp_field_ref Try.underlying74 rfl rfl rfl inf3 (by decide) rfl) ?_) | (refine AD1.rp rfl rfl rfl (fun _ _ h => h) (rp_field_ad Try.underlying74 rfl rfl rfl inf3 (by decide) rfl) ?_))
                  (first | (refine AD1.rd rfl rfl rfl (fun _ _ h => h) (rd_load_ref Try.underlying3 rfl rfl rfl rfl rfl rfl) ?_) | (refine AD1.rd rfl rfl rfl (fun _ _ h => h) (rd_load_ad Try.underlying3 rfl rfl rfl rfl) ?_) | (refine AD1.rd rfl rfl rfl (fun _ _ h => h) (rd_load_map Try.underlying3 rfl rfl rfl rfl rfl rfl (by assumption)) ?_))
                  refine AD1.rp rfl rfl rfl (fun _ _ h => h) (rp_add rfl rfl rfl (by omega)) ?_
                  (first | (refine AD1.rp rfl rfl rfl (fun _ _ h => h) (rp_index_map Try.underlying41 inf3 rfl rfl rfl rfl (by assumption)) ?_) | (refine AD1.rp rfl rfl rfl (fun _ _ h => h) (rp_index_own Try.underlying41 inf3 rfl rfl rfl rfl (by first | assumption | omega)) ?_) | (refine AD1.rp rfl rfl rfl (fun _ _ h => h) (rd_index_sl Try.underlying41 inf3 rfl rfl rfl rfl (by assumption)) ?_) | (refine AD1.rp rfl rfl rfl (fun _ _ h => h) (rp_index_own Try.underlying41 inf3 rfl rfl rfl (by omega) (by omega)) ?_))
                  refine AD1.go ?_
                  refine AD2.go ?_
                  refine AD3.st rfl rfl rfl (st_store_map2 (v := d + w) inf3 rfl rfl rfl rfl rfl rfl rfl rfl (by first | assumption | omega)) ?_
                  refine AD3.nil ?_
                  try simp only [thenS, S.put, S.newObj, setL, V.cs, List.length_cons, List.length_nil, List.take_succ_cons, List.take_zero, List.drop_succ_cons, List.drop_zero, List.drop_nil, List.nil_append, List.cons_append, List.append_nil, Nat.zero_add, Nat.reduceAdd, List.map_cons, List.map_nil, List.set_cons_zero, List.set_cons_succ]
                  refine AW.region ?_
                  refine AL.rp rfl rfl (rp_move rfl rfl) ?_
                  refine AL.rp rfl rfl (rp_add rfl rfl rfl (by omega)) ?_
                  refine AL.rp rfl rfl (rp_assign rfl rfl) ?_
                  refine AL.nil ?_
                  try simp only [thenS, S.put]
                  refine ⟨_, ?_, ⟨i + 1, L.set p (d + w), by omega, hR', rfl⟩, ?_⟩
                  · exact (Less.of rfl (by repeat (first | exact trivial | refine ⟨⟨_, rfl, Wk.refl _⟩, ?_⟩ | refine ⟨⟨_, rfl, Wk.nil _ _⟩, ?_⟩ | refine ⟨⟨_, rfl, Wk.junk _⟩, ?_⟩)) (by repeat (first | exact trivial | refine ⟨rfl, ?_⟩)) rfl)
                  · simp [S.nat, fnd]; omega
                · have hR' : Rd I G n k L0 (fun q' p w => q' < q ∨ q' = q ∧ ∃ (j : Nat) (a : Ar), j < i + 1 ∧ x.arcs[j]? = some a ∧ a.t = (p : Int) ∧ a.w = (w : Int)) L := hR.skip fun q' p' w' x0 y0 h => by
                    rcases h with h | ⟨rfl, j, a, h2, h3, h4, h5⟩
                    · exact .inl (.inl h)
                    · by_cases e : j = i
                      · subst e
                        rw [hy] at h3
                        simp only [Option.some.injEq] at h3
                        subst h3
                        simp only at h4 h5
                        obtain rfl : p = p' := by omega
                        obtain rfl : w = w' := by omega
                        refine .inr fun _ h6 h7 => ?_
                        rw [hcp] at h7
                        simp only [Option.some.injEq] at h7
                        have := hR.low q' d x0 hd h6
                        omega
                      · exact .inl (.inr ⟨rfl, j, a, by omega, h3, h4, h5⟩)
                  refine AW.seq ?_
                  refine AW.seq ?_
                  refine AW.region ?_
                  refine AL.rp rfl rfl (rp_move rfl rfl) ?_
                  (first | (refine AL.rp rfl rfl (rp_field_ref Try.underlying24 rfl rfl rfl inf22 (by decide) rfl) ?_) | (refine AL.rp rfl rfl (rp_field_ad Try.underlying24 rfl rfl rfl inf22 (by decide) rfl) ?_))
                  (first | (refine AL.rd rfl rfl (rd_load_ref Try.underlying22 rfl rfl rfl rfl rfl rfl) ?_) | (refine AL.rd rfl rfl (rd_load_ad Try.underlying22 rfl rfl rfl rfl) ?_) | (refine AL.rd rfl rfl (rd_load_map Try.underlying22 rfl rfl rfl rfl rfl rfl (by assumption)) ?_))
                  refine AL.rp rfl rfl (rp_move rfl rfl) ?_
                  (first | (refine AL.rp rfl rfl (rp_index_map Try.underlying22 inf62 rfl rfl rfl rfl (by assumption)) ?_) | (refine AL.rp rfl rfl (rp_index_own Try.underlying22 inf62 rfl rfl rfl rfl (by first | assumption | omega)) ?_) | (refine AL.rp rfl rfl (rd_index_sl Try.underlying22 inf62 rfl rfl rfl rfl (by assumption)) ?_) | (refine AL.rp rfl rfl (rp_index_own Try.underlying22 inf62 rfl rfl rfl (by omega) (by omega)) ?_))
                  (first | (refine AL.rp rfl rfl (rp_field_ref Try.underlying62 rfl rfl rfl inf60 (by decide) rfl) ?_) | (refine AL.rp rfl rfl (rp_field_ad Try.underlying62 rfl rfl rfl inf60 (by decide) rfl) ?_))
                  (first | (refine AL.rd rfl rfl (rd_load_ref Try.underlying60 rfl rfl rfl rfl rfl rfl) ?_) | (refine AL.rd rfl rfl (rd_load_ad Try.underlying60 rfl rfl rfl rfl) ?_) | (refine AL.rd rfl rfl (rd_load_map Try.underlying60 rfl rfl rfl rfl rfl rfl (by assumption)) ?_))
                  (first | (refine AL.rp rfl rfl (rp_len_map Try.underlying60 rfl rfl (by assumption)) ?_) | (refine AL.rp rfl rfl (rp_len_own Try.underlying60 rfl rfl) ?_) | (refine AL.rp rfl rfl (rp_len_sl Try.underlying60 rfl rfl) ?_) | (refine AL.rp rfl rfl (rp_len_nil Try.underlying60 rfl rfl) ?_) | (refine AL.rp rfl rfl (rp_len_str Try.underlying60 rfl rfl) ?_))
                  (first | (refine AL.rp rfl rfl (rp_lssT rfl rfl rfl (by first | assumption | omega)) ?_) | (refine AL.rp rfl rfl (rp_lssF rfl rfl rfl (by first | assumption | omega)) ?_) | (refine AL.rp rfl rfl (rp_lss rfl rfl rfl) ?_))
                  refine AL.rp rfl rfl (rp_move rfl rfl) ?_
                  (first | (refine AL.no rfl rfl rfl rfl ?_) | (refine AL.rpy rfl rfl rfl (rp_move rfl rfl) ?_))
                  (first | (refine AL.no rfl rfl rfl rfl ?_) | (refine AL.rpy rfl rfl rfl (rp_move rfl rfl) ?_))
                  (first | (refine AL.no rfl rfl rfl rfl ?_) | (refine AL.rpy rfl rfl rfl (rp_index_map Try.underlying41 inf3 rfl rfl rfl rfl (by assumption)) ?_) | (refine AL.rpy rfl rfl rfl (rp_index_own Try.underlying41 inf3 rfl rfl rfl rfl (by first | assumption | omega)) ?_) | (refine AL.rpy rfl rfl rfl (rd_index_sl Try.underlying41 inf3 rfl rfl rfl rfl (by assumption)) ?_) | (refine AL.rpy rfl rfl rfl (rp_index_own Try.underlying41 inf3 rfl rfl rfl (by omega) (by omega)) ?_))
                  (first | (refine AL.no rfl rfl rfl rfl ?_) | (refine AL.rdy rfl rfl rfl (rd_load_ref Try.underlying3 rfl rfl rfl rfl rfl rfl) ?_) | (refine AL.rdy rfl rfl rfl (rd_load_ad Try.underlying3 rfl rfl rfl rfl) ?_) | (refine AL.rdy rfl rfl rfl (rd_load_map Try.underlying3 rfl rfl rfl rfl rfl rfl (by assumption)) ?_))
                  (first | (refine AL.no rfl rfl rfl rfl ?_) | (refine AL.rpy rfl rfl rfl (rp_neqT rfl rfl rfl (by first | assumption | omega)) ?_) | (refine AL.rpy rfl rfl rfl (rp_neqF rfl rfl rfl (by first | assumption | omega)) ?_) | (refine AL.rpy rfl rfl rfl (rp_neq rfl rfl rfl) ?_))
                  refine AL.rp rfl rfl (rp_pick rfl rfl rfl) ?_
                  refine AL.nil ?_
                  try simp only [thenS, S.put]
                  refine AW.condT rfl ?_
                  refine AW.skip ?_
                  try simp only [thenS]
                  refine AW.seq ?_
                  refine AW.block ?_
                  refine AW.seq ?_
                  refine AW.region ?_
                  (first | (refine AL.rp rfl rfl (rp_field_ref Try.underlying24 rfl rfl rfl inf22 (by decide) rfl) ?_) | (refine AL.rp rfl rfl (rp_field_ad Try.underlying24 rfl rfl rfl inf22 (by decide) rfl) ?_))
                  (first | (refine AL.rd rfl rfl (rd_load_ref Try.underlying22 rfl rfl rfl rfl rfl rfl) ?_) | (refine AL.rd rfl rfl (rd_load_ad Try.underlying22 rfl rfl rfl rfl) ?_) | (refine AL.rd rfl rfl (rd_load_map Try.underlying22 rfl rfl rfl rfl rfl rfl (by assumption)) ?_))
                  refine AL.rp rfl rfl (rp_move rfl rfl) ?_
                  (first | (refine AL.rp rfl rfl (rp_index_map Try.underlying22 inf62 rfl rfl rfl rfl (by assumption)) ?_) | (refine AL.rp rfl rfl (rp_index_own Try.underlying22 inf62 rfl rfl rfl rfl (by first | assumption | omega)) ?_) | (refine AL.rp rfl rfl (rd_index_sl Try.underlying22 inf62 rfl rfl rfl rfl (by assumption)) ?_) | (refine AL.rp rfl rfl (rp_index_own Try.underlying22 inf62 rfl rfl rfl (by omega) (by omega)) ?_))
                  (first | (refine AL.rp rfl rfl (rp_field_ref Try.underlying62 rfl rfl rfl inf60 (by decide) rfl) ?_) | (refine AL.rp rfl rfl (rp_field_ad Try.underlying62 rfl rfl rfl inf60 (by decide) rfl) ?_))
                  (first | (refine AL.rd rfl rfl (rd_load_ref Try.underlying60 rfl rfl rfl rfl rfl rfl) ?_) | (refine AL.rd rfl rfl (rd_load_ad Try.underlying60 rfl rfl rfl rfl) ?_) | (refine AL.rd rfl rfl (rd_load_map Try.underlying60 rfl rfl rfl rfl rfl rfl (by assumption)) ?_))
                  refine AL.rp rfl rfl (rp_move rfl rfl) ?_
                  (first | (refine AL.rp rfl rfl (rp_index_map Try.underlying60 inf74 rfl rfl rfl rfl (by assumption)) ?_) | (refine AL.rp rfl rfl (rp_index_own Try.underlying60 inf74 rfl rfl rfl rfl (by first | assumption | omega)) ?_) | (refine AL.rp rfl rfl (rd_index_sl Try.underlying60 inf74 rfl rfl rfl rfl (by assumption)) ?_) | (refine AL.rp rfl rfl (rp_index_own Try.underlying60 inf74 rfl rfl rfl (by omega) (by omega)) ?_))
                  (first | (refine AL.rd rfl rfl (rd_loads_ref Try.underlying74 rfl inf74 rfl rfl rfl rfl rfl rfl) ?_) | (refine AL.rd rfl rfl (rd_loads_ad Try.underlying74 rfl inf74 rfl rfl rfl rfl) ?_))
                  refine AL.sm rfl (sm_alloc (l := [.d (.p (.int .i64 0)), .d (.p (.int .i64 0)), .d (.p (.int .i64 0)), .d (.p (.int .i64 0))]) 11 inf74 rfl (by first | rfl | simp [S.clean, S.put, S.newObj, S.forget, V.has, V.hasL, junkIf, setL, V.cs, hasL_i, hasL_b, hasL_s, hasL_n, hasL_rep, hasL_flat, hasL_append, -List.map_set]) rfl rfl) ?_
                  refine AL.st rfl (st_store_any inf74 rfl rfl rfl rfl rfl rfl rfl rfl (by first | decide | (simp; omega)) rfl) ?_
                  refine AL.nil ?_
                  try simp only [thenS, S.put, S.newObj, setL, V.cs, List.length_cons, List.length_nil, List.take_succ_cons, List.take_zero, List.drop_succ_cons, List.drop_zero, List.drop_nil, List.nil_append, List.cons_append, List.append_nil, Nat.zero_add, Nat.reduceAdd, List.map_cons, List.map_nil, List.set_cons_zero, List.set_cons_succ]
                  refine AW.seq ?_
                  refine AW.draw [(0, true), (1, true), (2, true), (3, true), (4, true), (5, true), (6, true), (7, true), (8, true), (9, true), (10, true), (11, true), (12, true)] (fun i => !([] : List Nat).contains i) 13 (by kernel_rfl) (by kernel_rfl) rfl (by kernel_rfl) ?_
                  refine AD1.rp rfl rfl rfl (fun _ _ h => h) (rp_move rfl rfl) ?_
                  refine AD1.rp rfl rfl rfl (fun _ _ h => h) (rp_move rfl rfl) ?_
                  (first | (refine AD1.rp rfl rfl rfl (fun _ _ h => h) (rp_index_map Try.underlying41 inf3 rfl rfl rfl rfl (by assumption)) ?_) | (refine AD1.rp rfl rfl rfl (fun _ _ h => h) (rp_index_own Try.underlying41 inf3 rfl rfl rfl rfl (by first | assumption | omega)) ?_) | (refine AD1.rp rfl rfl rfl (fun _ _ h => h) (rd_index_sl Try.underlying41 inf3 rfl rfl rfl rfl (by assumption)) ?_) | (refine AD1.rp rfl rfl rfl (fun _ _ h => h) (rp_index_own Try.underlying41 inf3 rfl rfl rfl (by omega) (by omega)) ?_))
                  (first | (refine AD1.rd rfl rfl rfl (fun _ _ h => h) (rd_load_ref Try.underlying3 rfl rfl rfl rfl rfl rfl) ?_) | (refine AD1.rd rfl rfl rfl (fun _ _ h => h) (rd_load_ad Try.underlying3 rfl rfl rfl rfl) ?_) | (refine AD1.rd rfl rfl rfl (fun _ _ h => h) (rd_load_map Try.underlying3 rfl rfl rfl rfl rfl rfl (by assumption)) ?_))
                  (first | (refine AD1.rp rfl rfl rfl (fun _ _ h => h) (rp_field_ref Try.underlying74 rfl rfl rfl inf3 (by decide) rfl) ?_) | (refine AD1.rp rfl rfl rfl (fun _ _ h => h) (rp_field_ad Try.underlying74 rfl rfl rfl inf3 (by decide) rfl) ?_))
                  (first | (refine AD1.rd rfl rfl rfl (fun _ _ h => h) (rd_load_ref Try.underlying3 rfl rfl rfl rfl rfl rfl) ?_) | (refine AD1.rd rfl rfl rfl (fun _ _ h => h) (rd_load_ad Try.underlying3 rfl rfl rfl rfl) ?_) | (refine AD1.rd rfl rfl rfl (fun _ _ h => h) (rd_load_map Try.underlying3 rfl rfl rfl rfl rfl rfl (by assumption)) ?_))
                  refine AD1.rp rfl rfl rfl (fun _ _ h => h) (rp_add rfl rfl rfl (by omega)) ?_
                  refine AD1.rp rfl rfl rfl (fun _ _ h => h) (rp_move rfl rfl) ?_
                  (first | (refine AD1.rp rfl rfl rfl (fun _ _ h => h) (rp_field_ref Try.underlying74 rfl rfl rfl inf3 (by decide) rfl) ?_) | (refine AD1.rp rfl rfl rfl (fun _ _ h => h) (rp_field_ad Try.underlying74 rfl rfl rfl inf3 (by decide) rfl) ?_))
                  (first | (refine AD1.rd rfl rfl rfl (fun _ _ h => h) (rd_load_ref Try.underlying3 rfl rfl rfl rfl rfl rfl) ?_) | (refine AD1.rd rfl rfl rfl (fun _ _ h => h) (rd_load_ad Try.underlying3 rfl rfl rfl rfl) ?_) | (refine AD1.rd rfl rfl rfl (fun _ _ h => h) (rd_load_map Try.underlying3 rfl rfl rfl rfl rfl rfl (by assumption)) ?_))
                  (first | (refine AD1.rp rfl rfl rfl (fun _ _ h => h) (rp_index_map Try.underlying41 inf3 rfl rfl rfl rfl (by assumption)) ?_) | (refine AD1.rp rfl rfl rfl (fun _ _ h => h) (rp_index_own Try.underlying41 inf3 rfl rfl rfl rfl (by first | assumption | omega)) ?_) | (refine AD1.rp rfl rfl rfl (fun _ _ h => h) (rd_index_sl Try.underlying41 inf3 rfl rfl rfl rfl (by assumption)) ?_) | (refine AD1.rp rfl rfl rfl (fun _ _ h => h) (rp_index_own Try.underlying41 inf3 rfl rfl rfl (by omega) (by omega)) ?_))
                  (first | (refine AD1.rd rfl rfl rfl (fun _ _ h => h) (rd_load_ref Try.underlying3 rfl rfl rfl rfl rfl rfl) ?_) | (refine AD1.rd rfl rfl rfl (fun _ _ h => h) (rd_load_ad Try.underlying3 rfl rfl rfl rfl) ?_) | (refine AD1.rd rfl rfl rfl (fun _ _ h => h) (rd_load_map Try.underlying3 rfl rfl rfl rfl rfl rfl (by assumption)) ?_))
                  (first | (refine AD1.rp rfl rfl rfl (fun _ _ h => h) (rp_lssT rfl rfl rfl (by first | assumption | omega)) ?_) | (refine AD1.rp rfl rfl rfl (fun _ _ h => h) (rp_lssF rfl rfl rfl (by first | assumption | omega)) ?_) | (refine AD1.rp rfl rfl rfl (fun _ _ h => h) (rp_lss rfl rfl rfl) ?_))
                  refine AD1.nil ?_
                  try simp only [thenS, S.put]
                  refine AW.condF rfl ?_
                  refine AW.skip ?_
                  try simp only [thenS]
                  refine AW.region ?_
                  refine AL.rp rfl rfl (rp_move rfl rfl) ?_
                  refine AL.rp rfl rfl (rp_add rfl rfl rfl (by omega)) ?_
                  refine AL.rp rfl rfl (rp_assign rfl rfl) ?_
                  refine AL.nil ?_
                  try simp only [thenS, S.put]
                  refine ⟨_, ?_, ⟨i + 1, L, by omega, hR', rfl⟩, ?_⟩
                  · exact (Less.of rfl (by repeat (first | exact trivial | refine ⟨⟨_, rfl, Wk.refl _⟩, ?_⟩ | refine ⟨⟨_, rfl, Wk.nil _ _⟩, ?_⟩ | refine ⟨⟨_, rfl, Wk.junk _⟩, ?_⟩)) (by repeat (first | exact trivial | refine ⟨rfl, ?_⟩)) rfl)
                  · simp [S.nat, fnd]; omega
            · have hR' : Rd I G n k L0 (fun q' _ _ => q' < q + 1) L := ⟨hR.snd, hR.snd0, hR.low, hR.cnt, fun q' p' w' x0 y0 h hg h1 h2 => by
                by_cases e : q' = q
                · subst e
                  obtain ⟨j, a, h3, h4, h5⟩ := edge_q hg
                  exact hR.seen q' p' w' x0 y0 (.inr ⟨rfl, j, a, by have := (List.getElem?_eq_some_iff.1 h3).1; omega, h3, h4, h5⟩) hg h1 h2
                · exact hR.seen q' p' w' x0 y0 (.inl (by omega)) hg h1 h2⟩
              refine AW.seq ?_
              refine AW.seq ?_
              refine AW.region ?_
              refine AL.rp rfl rfl (rp_move rfl rfl) ?_
              (first | (refine AL.rp rfl rfl (rp_field_ref Try.underlying24 rfl rfl rfl inf22 (by decide) rfl) ?_) | (refine AL.rp rfl rfl (rp_field_ad Try.underlying24 rfl rfl rfl inf22 (by decide) rfl) ?_))
              (first | (refine AL.rd rfl rfl (rd_load_ref Try.underlying22 rfl rfl rfl rfl rfl rfl) ?_) | (refine AL.rd rfl rfl (rd_load_ad Try.underlying22 rfl rfl rfl rfl) ?_) | (refine AL.rd rfl rfl (rd_load_map Try.underlying22 rfl rfl rfl rfl rfl rfl (by assumption)) ?_))
              refine AL.rp rfl rfl (rp_move rfl rfl) ?_
              (first | (refine AL.rp rfl rfl (rp_index_map Try.underlying22 inf62 rfl rfl rfl rfl (by assumption)) ?_) | (refine AL.rp rfl rfl (rp_index_own Try.underlying22 inf62 rfl rfl rfl rfl (by first | assumption | omega)) ?_) | (refine AL.rp rfl rfl (rd_index_sl Try.underlying22 inf62 rfl rfl rfl rfl (by assumption)) ?_) | (refine AL.rp rfl rfl (rp_index_own Try.underlying22 inf62 rfl rfl rfl (by omega) (by omega)) ?_))
              (first | (refine AL.rp rfl rfl (rp_field_ref Try.underlying62 rfl rfl rfl inf60 (by decide) rfl) ?_) | (refine AL.rp rfl rfl (rp_field_ad Try.underlying62 rfl rfl rfl inf60 (by decide) rfl) ?_))
              (first | (refine AL.rd rfl rfl (rd_load_ref Try.underlying60 rfl rfl rfl rfl rfl rfl) ?_) | (refine AL.rd rfl rfl (rd_load_ad Try.underlying60 rfl rfl rfl rfl) ?_) | (refine AL.rd rfl rfl (rd_load_map Try.underlying60 rfl rfl rfl rfl rfl rfl (by assumption)) ?_))
              (first | (refine AL.rp rfl rfl (rp_len_map Try.underlying60 rfl rfl (by assumption)) ?_) | (refine AL.rp rfl rfl (rp_len_own Try.underlying60 rfl rfl) ?_) | (refine AL.rp rfl rfl (rp_len_sl Try.underlying60 rfl rfl) ?_) | (refine AL.rp rfl rfl (rp_len_nil Try.underlying60 rfl rfl) ?_) | (refine AL.rp rfl rfl (rp_len_str Try.underlying60 rfl rfl) ?_))
              (first | (refine AL.rp rfl rfl (rp_lssT rfl rfl rfl (by first | assumption | omega)) ?_) | (refine AL.rp rfl rfl (rp_lssF rfl rfl rfl (by first | assumption | omega)) ?_) | (refine AL.rp rfl rfl (rp_lss rfl rfl rfl) ?_))
              refine AL.rp rfl rfl (rp_move rfl rfl) ?_
              (first | (refine AL.no rfl rfl rfl rfl ?_) | (refine AL.rpy rfl rfl rfl (rp_move rfl rfl) ?_))
              (first | (refine AL.no rfl rfl rfl rfl ?_) | (refine AL.rpy rfl rfl rfl (rp_move rfl rfl) ?_))
              (first | (refine AL.no rfl rfl rfl rfl ?_) | (refine AL.rpy rfl rfl rfl (rp_index_map Try.underlying41 inf3 rfl rfl rfl rfl (by assumption)) ?_) | (refine AL.rpy rfl rfl rfl (rp_index_own Try.underlying41 inf3 rfl rfl rfl rfl (by first | assumption | omega)) ?_) | (refine AL.rpy rfl rfl rfl (rd_index_sl Try.underlying41 inf3 rfl rfl rfl rfl (by assumption)) ?_) | (refine AL.rpy rfl rfl rfl (rp_index_own Try.underlying41 inf3 rfl rfl rfl (by omega) (by omega)) ?_))
              (first | (refine AL.no rfl rfl rfl rfl ?_) | (refine AL.rdy rfl rfl rfl (rd_load_ref Try.underlying3 rfl rfl rfl rfl rfl rfl) ?_) | (refine AL.rdy rfl rfl rfl (rd_load_ad Try.underlying3 rfl rfl rfl rfl) ?_) | (refine AL.rdy rfl rfl rfl (rd_load_map Try.underlying3 rfl rfl rfl rfl rfl rfl (by assumption)) ?_))
              (first | (refine AL.no rfl rfl rfl rfl ?_) | (refine AL.rpy rfl rfl rfl (rp_neqT rfl rfl rfl (by first | assumption | omega)) ?_) | (refine AL.rpy rfl rfl rfl (rp_neqF rfl rfl rfl (by first | assumption | omega)) ?_) | (refine AL.rpy rfl rfl rfl (rp_neq rfl rfl rfl) ?_))
              refine AL.rp rfl rfl (rp_pick rfl rfl rfl) ?_
              refine AL.nil ?_
              try simp only [thenS, S.put]
              refine AW.condF rfl ?_
              refine AW.exit ?_
              try simp only [thenS, inBlockS, ↓reduceIte, Nat.reduceEqDiff]
              refine AW.region ?_
              refine AL.rp rfl rfl (rp_move rfl rfl) ?_
              refine AL.rp rfl rfl (rp_add rfl rfl rfl (by omega)) ?_
              refine AL.rp rfl rfl (rp_assign rfl rfl) ?_
              refine AL.nil ?_
              try simp only [thenS, S.put]
              refine ⟨_, ?_, ⟨q + 1, L, by omega, hR', rfl⟩, ?_⟩
              · exact (Less.of rfl (by repeat (first | exact trivial | refine ⟨⟨_, rfl, Wk.refl _⟩, ?_⟩ | refine ⟨⟨_, rfl, Wk.nil _ _⟩, ?_⟩ | refine ⟨⟨_, rfl, Wk.junk _⟩, ?_⟩)) (by repeat (first | exact trivial | refine ⟨rfl, ?_⟩)) rfl)
              · simp [S.nat, fnd]; omega
          · obtain ⟨hs, hc'⟩ := hR.finish hin (fun q d h => (hini.1 h).1) (fun q' p w h => by have := (hin q' p w h).1; omega)
            refine AW.seq ?_
            refine AW.seq ?_
            refine AW.region ?_
            refine AL.rp rfl rfl (rp_move rfl rfl) ?_
            refine AL.rp rfl rfl (rp_move rfl rfl) ?_
            (first | (refine AL.rp rfl rfl (rp_lssT rfl rfl rfl (by first | assumption | omega)) ?_) | (refine AL.rp rfl rfl (rp_lssF rfl rfl rfl (by first | assumption | omega)) ?_) | (refine AL.rp rfl rfl (rp_lss rfl rfl rfl) ?_))
            refine AL.nil ?_
            try simp only [thenS, S.put]
            refine AW.condF rfl ?_
            refine AW.exit ?_
            try simp only [thenS, inBlockS, ↓reduceIte, Nat.reduceEqDiff]
            refine AW.region ?_
            refine AL.rp rfl rfl (rp_move rfl rfl) ?_
            refine AL.rp rfl rfl (rp_add rfl rfl rfl (by omega)) ?_
            refine AL.rp rfl rfl (rp_assign rfl rfl) ?_
            refine AL.nil ?_
            try simp only [thenS, S.put]
            refine ⟨_, ?_, ⟨k + 1, L, by omega, hs, hc', rfl⟩, ?_⟩
            · exact (Less.of rfl (by repeat (first | exact trivial | refine ⟨⟨_, rfl, Wk.refl _⟩, ?_⟩ | refine ⟨⟨_, rfl, Wk.nil _ _⟩, ?_⟩ | refine ⟨⟨_, rfl, Wk.junk _⟩, ?_⟩)) (by repeat (first | exact trivial | refine ⟨rfl, ?_⟩)) rfl)
            · simp [S.nat, fnd]; omega
        · have hLD := Rd.all hL0 hc (by omega)
          rw [← hDD] at hLD
          subst hLD
          have hll := hL0.len
          have hcosts := (am_costs L0 n hll h60).mono (fun v => hres v)
          refine AW.seq ?_
          refine AW.seq ?_
          refine AW.region ?_
          refine AL.rp rfl rfl (rp_move rfl rfl) ?_
          refine AL.rp rfl rfl (rp_move rfl rfl) ?_
          (first | (refine AL.rp rfl rfl (rp_lssT rfl rfl rfl (by first | assumption | omega)) ?_) | (refine AL.rp rfl rfl (rp_lssF rfl rfl rfl (by first | assumption | omega)) ?_) | (refine AL.rp rfl rfl (rp_lss rfl rfl rfl) ?_))
          refine AL.nil ?_
          try simp only [thenS, S.put]
          refine AW.condF rfl ?_
          refine AW.exit ?_
          try simp only [thenS, inBlockS, ↓reduceIte, Nat.reduceEqDiff]
          refine AW.seq ?_
          refine AW.freeze 6 8 (L0.map encN) rfl rfl rfl (by simp [hll]) (by omega) (rows1 rfl) ?_
          by_cases he : disE L0 ⟨st, sts⟩ = 0
          · have hcon := resI_eq hcosts he
            refine AW.region ?_
            refine AL.rp rfl rfl (rp_move rfl rfl) ?_
            refine AL.call (post := ?pc4) rfl (sm_call (args := [_]) ?hc4 ⟨Try.func68, rfl, rfl, rfl, rfl⟩ rfl rfl rfl rfl) ?_
            case hc4 => exact hcon
            rintro _ rfl -
            try dsimp only
            refine AL.rp rfl rfl (rp_move rfl rfl) ?_
            refine AL.rp rfl rfl (rp_extract rfl rfl rfl) ?_
            refine AL.rp rfl rfl (rp_extract rfl rfl rfl) ?_
            refine AL.rp rfl rfl (rp_assign rfl rfl) ?_
            refine AL.rp rfl rfl (rp_assign rfl rfl) ?_
            refine AL.nil ?_
            try simp only [thenS, S.put, S.newObj, setL, V.cs, List.length_cons, List.length_nil, List.take_succ_cons, List.take_zero, List.drop_succ_cons, List.drop_zero, List.drop_nil, List.nil_append, List.cons_append, List.append_nil, Nat.zero_add, Nat.reduceAdd, List.map_cons, List.map_nil, List.set_cons_zero, List.set_cons_succ]
            refine AW.seq ?_
            refine AW.region ?_
            refine AL.rp rfl rfl (rp_move rfl rfl) ?_
            refine AL.rp rfl rfl (rp_move rfl rfl) ?_
            refine AL.rp rfl rfl (rp_assign rfl rfl) ?_
            refine AL.rp rfl rfl (rp_assign rfl rfl) ?_
            refine AL.nil ?_
            try simp only [thenS, S.put]
            refine AW.ret ?_
            exact ⟨[_, _], ⟨rfl, rfl, trivial⟩, .inr ⟨he, rfl⟩, by simp [tupOf, V.pure, V.has, V.hasL]⟩
          · have hcon := resI_ne hcosts he
            refine AW.region ?_
            refine AL.rp rfl rfl (rp_move rfl rfl) ?_
            refine AL.call (post := ?pc5) rfl (sm_call (args := [_]) ?hc5 ⟨Try.func68, rfl, rfl, rfl, rfl⟩ rfl rfl rfl rfl) ?_
            case hc5 => exact hcon
            rintro _ rfl -
            try dsimp only
            refine AL.rp rfl rfl (rp_move rfl rfl) ?_
            refine AL.rp rfl rfl (rp_extract rfl rfl rfl) ?_
            refine AL.rp rfl rfl (rp_extract rfl rfl rfl) ?_
            refine AL.rp rfl rfl (rp_assign rfl rfl) ?_
            refine AL.rp rfl rfl (rp_assign rfl rfl) ?_
            refine AL.nil ?_
            try simp only [thenS, S.put, S.newObj, setL, V.cs, List.length_cons, List.length_nil, List.take_succ_cons, List.take_zero, List.drop_succ_cons, List.drop_zero, List.drop_nil, List.nil_append, List.cons_append, List.append_nil, Nat.zero_add, Nat.reduceAdd, List.map_cons, List.map_nil, List.set_cons_zero, List.set_cons_succ]
            refine AW.seq ?_
            refine AW.region ?_
            refine AL.rp rfl rfl (rp_move rfl rfl) ?_
            refine AL.rp rfl rfl (rp_move rfl rfl) ?_
            refine AL.rp rfl rfl (rp_assign rfl rfl) ?_
            refine AL.rp rfl rfl (rp_assign rfl rfl) ?_
            refine AL.nil ?_
            try simp only [thenS, S.put]
            refine AW.ret ?_
            exact ⟨[_, _], ⟨rfl, rfl, trivial⟩, .inl ⟨he, rfl⟩, by simp [tupOf, V.pure, V.has, V.hasL]⟩
  · have hE : disE (frD m) m = machE m := by unfold disE; rw [if_pos h0]
    have hL : disL (frD m) m = [] := by unfold disL; rw [if_neg (by rw [hE]; exact h0)]
    rw [hE, hL]
    obtain ⟨st, sts⟩ := m
    obtain ⟨e, he⟩ : ∃ e, machE ⟨st, sts⟩ = e := ⟨_, rfl⟩
    rw [he] at h0 ⊢
    refine Fn.intro (n := 107) ⟨Try.func34, rfl, rfl, rfl, rfl⟩ (by simp [V.pure, V.has, V.hasL]) (by simp) fun w0 out => ?_
    refine AW.seq ?_
    refine AW.region ?_
    refine AL.sm rfl (sm_box 1 rfl rfl rfl (by first | rfl | simp [S.clean, S.put, S.newObj, S.forget, V.has, V.hasL, junkIf, setL, V.cs, hasL_i, hasL_b, hasL_s, hasL_n, hasL_rep, hasL_flat, hasL_append, -List.map_set]) rfl) ?_
    refine AL.rp rfl rfl (rp_assign rfl rfl) ?_
    refine AL.rp rfl rfl (rp_assign rfl rfl) ?_
    refine AL.nil ?_
    try simp only [thenS, S.put, S.newObj, setL, V.cs, List.length_cons, List.length_nil, List.take_succ_cons, List.take_zero, List.drop_succ_cons, List.drop_zero, List.drop_nil, List.nil_append, List.cons_append, List.append_nil, Nat.zero_add, Nat.reduceAdd, List.map_cons, List.map_nil, List.set_cons_zero, List.set_cons_succ, enum]
    refine AW.seq ?_
    refine AW.region ?_
    (first | (refine AL.rd rfl rfl (rd_loads_ref Try.underlying24 rfl inf24 rfl rfl rfl rfl rfl rfl) ?_) | (refine AL.rd rfl rfl (rd_loads_ad Try.underlying24 rfl inf24 rfl rfl rfl rfl) ?_))
    refine AL.call (post := ?pc6) rfl (sm_call (args := [_]) ?hc6 ⟨Try.func50, rfl, rfl, rfl, rfl⟩ rfl rfl rfl rfl) ?_
    case hc6 => exact Fn.eqi (am_Fault ⟨st, sts⟩) he
    rintro _ rfl -
    try dsimp only
    refine AL.rp rfl rfl (rp_assign rfl rfl) ?_
    refine AL.nil ?_
    try simp only [thenS, S.put, S.newObj, setL, V.cs, List.length_cons, List.length_nil, List.take_succ_cons, List.take_zero, List.drop_succ_cons, List.drop_zero, List.drop_nil, List.nil_append, List.cons_append, List.append_nil, Nat.zero_add, Nat.reduceAdd, List.map_cons, List.map_nil, List.set_cons_zero, List.set_cons_succ]
    refine AW.seq ?_
    refine AW.seq ?_
    refine AW.region ?_
    refine AL.rp rfl rfl (rp_move rfl rfl) ?_
    (first | (refine AL.rp rfl rfl (rp_neqT rfl rfl rfl (by first | assumption | omega)) ?_) | (refine AL.rp rfl rfl (rp_neqF rfl rfl rfl (by first | assumption | omega)) ?_) | (refine AL.rp rfl rfl (rp_neq rfl rfl rfl) ?_))
    refine AL.nil ?_
    try simp only [thenS, S.put]
    refine AW.condT rfl ?_
    refine AW.seq ?_
    refine AW.region ?_
    refine AL.rp rfl rfl (rp_move rfl rfl) ?_
    refine AL.rp rfl rfl (rp_assign rfl rfl) ?_
    refine AL.rp rfl rfl (rp_assign rfl rfl) ?_
    refine AL.nil ?_
    try simp only [thenS, S.put]
    refine AW.ret ?_
    exact ⟨[_, _], ⟨rfl, rfl, trivial⟩, .inl ⟨h0, rfl⟩, by simp [tupOf, V.pure, V.has, V.hasL]⟩
theorem disL_nil {D : List Nat} {m : Mach} (h : disE D m ≠ 0) : disL D m = [] := by unfold disL; rw [if_neg h]
theorem am_FarFrom (m : Mach) : Fn Try.prog 34 [mV m] (fun v => v = .tup [.d (intsD ((disL (frD m) m).map fun x : Nat => (x : Int))), .i (disE (frD m) m)]) := (am_FarFrom0 m).wk (resI_wk disL_nil)
end Go.Proofs.Ytdpniifajmpmkaa
