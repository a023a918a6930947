-- %hmode
/- ref.RunMay. -/
import Derived.Test.YtnpbdcjfealoeaaAmBetter
import Derived.Test.YtnpbdcjfealoeaaAmDo
namespace Go.Proofs.Ytnpbdcjfealoeaa
open Go.RowKit
set_option linter.unusedSimpArgs false
set_option linter.unusedVariables false
set_option maxRecDepth 100000

theorem lab_yes {y : Int} (h : 1 ≤ y ∧ y ≤ 1000) : lab y = true := by simpa [lab] using h
theorem lab_no {y : Int} (h : ¬ (1 ≤ y ∧ y ≤ 1000)) : lab y = false := by simpa [lab] using h
def before (ms : List Mk) (k : Nat) (last : Int) : Prop := (k = 0 ∧ last = -1) ∨ ∃ (j : Nat) (p : Mk), k = j + 1 ∧ ms[j]? = some p ∧ p.s = last
set_option maxHeartbeats 1000000 in
theorem am_RunMay (m : Mach) (r : Rn) (h60 : m.states.length ≤ 60) : Fn Try.prog 50 [mV m, rnV r] (fun v => v = .b (runMay m.states.length r)) := by
 refine Fn.run r 1 rfl fun hml hol => ?_
 obtain ⟨st, sts⟩ := m
 obtain ⟨fd, ms⟩ := r
 simp only at h60 hml hol ⊢
 obtain ⟨n, hn⟩ : ∃ n, sts.length = n := ⟨_, rfl⟩
 obtain ⟨len, hlen⟩ : ∃ n, ms.length = n := ⟨_, rfl⟩
 rw [hn] at h60 ⊢
 rw [hlen] at hml
 refine Fn.intro (n := 72) ⟨Try.func50, rfl, rfl, rfl, rfl⟩ (by simp [V.pure, V.has, V.hasL]) (by simp) fun w0 out => ?_
 by_cases hf : 0 ≤ fd ∧ fd ≤ 12
 ·obtain ⟨B, hB⟩ : ∃ B, mksOk n (-1) ms = B := ⟨_, rfl⟩
  have hR : runMay n ⟨fd, ms⟩ = B := by simp only [runMay, hf, and_self, decide_true, Bool.true_and, hB]
  rw [hR]
  refine AW.seq ?_
  refine AW.region ?_
  refine AL.sm rfl (sm_box 2 rfl rfl rfl (by first | rfl | simp [S.clean, S.put, S.newObj, S.forget, V.has, V.hasL, junkIf, setL, V.cs, hasL_i, hasL_b, hasL_s, hasL_n, hasL_rep, hasL_flat, hasL_append, -List.map_set]) rfl) ?_
  refine AL.sm rfl (sm_box 3 rfl rfl rfl (by first | rfl | simp [S.clean, S.put, S.newObj, S.forget, V.has, V.hasL, junkIf, setL, V.cs, hasL_i, hasL_b, hasL_s, hasL_n, hasL_rep, hasL_flat, hasL_append, -List.map_set]) rfl) ?_
  refine AL.rp rfl rfl (rp_assign rfl rfl) ?_
  refine AL.nil ?_
  try simp only [thenS, S.put, S.newObj, setL, V.cs, List.length_cons, List.length_nil, List.take_succ_cons, List.take_zero, List.drop_succ_cons, List.drop_zero, List.drop_nil, List.nil_append, List.cons_append, List.append_nil, Nat.zero_add, Nat.reduceAdd, List.map_cons, List.map_nil, List.set_cons_zero, List.set_cons_succ, enum]
  refine AW.seq ?_
  refine AW.seq ?_
  refine AW.region ?_
  (first | (refine AL.rp rfl rfl (rp_field_ref Try.underlying27 rfl rfl rfl inf3 (by decide) rfl) ?_) | (refine AL.rp rfl rfl (rp_field_ad Try.underlying27 rfl rfl rfl inf3 (by decide) rfl) ?_))
  (first | (refine AL.rd rfl rfl (rd_load_ref Try.underlying3 rfl rfl rfl rfl rfl rfl) ?_) | (refine AL.rd rfl rfl (rd_load_ad Try.underlying3 rfl rfl rfl rfl) ?_) | (refine AL.rd rfl rfl (rd_load_map Try.underlying3 rfl rfl rfl rfl rfl rfl (by assumption)) ?_) | (refine AL.rd rfl rfl (rd_load_flat Try.underlying3 rfl rfl rfl rfl rfl rfl (fun _ => rfl) (by assumption) rfl) ?_))
  refine AL.call (post := ?pc84) rfl (sm_call (args := [_, _, _]) ?hc84 ⟨Try.func58, rfl, rfl, rfl, rfl⟩ rfl rfl rfl rfl) ?_
  case hc84 => first | (refine Fn.decT (am_In _ _ _) ?_; first | omega | (dsimp only; omega)) | (refine Fn.decF (am_In _ _ _) ?_; first | omega | (dsimp only; omega)) | exact am_In _ _ _
  rintro _ rfl -
  try dsimp only
  refine AL.rp rfl rfl (rp_not rfl rfl) ?_
  refine AL.nil ?_
  try simp only [thenS, S.put, S.newObj, setL, V.cs, List.length_cons, List.length_nil, List.take_succ_cons, List.take_zero, List.drop_succ_cons, List.drop_zero, List.drop_nil, List.nil_append, List.cons_append, List.append_nil, Nat.zero_add, Nat.reduceAdd, List.map_cons, List.map_nil, List.set_cons_zero, List.set_cons_succ]
  refine AW.condF rfl ?_
  refine AW.skip ?_
  try simp only [thenS]
  refine AW.seq ?_
  refine AW.seq ?_
  refine AW.region ?_
  refine AL.rp rfl rfl (rp_assign rfl rfl) ?_
  refine AL.nil ?_
  try simp only [thenS, S.put]
  refine AW.block ?_
  refine AW.loop (fun s' => ∃ (k : Nat) (last : Int), k ≤ len ∧ -1 ≤ last ∧ before ms k last ∧ mksOk n last (ms.drop k) = B ∧ s' = ⟨72, [(2, .ref 2 0), (3, .ref 3 0), (5, .i k)], [(2, ⟨24, [.i st, .d (stsD sts)], false, 0⟩), (3, ⟨27, [.i fd, .d (mksD ms)], false, 0⟩)], []⟩) (fun s' => len - s'.nat 5) ⟨_, ?_, 0, -1, by omega, by omega, .inl ⟨rfl, rfl⟩, by simpa using hB, rfl⟩ ?_
  ·exact (Less.of rfl (by repeat (first | exact trivial | refine ⟨⟨_, rfl, Wk.refl _⟩, ?_⟩ | refine ⟨⟨_, rfl, Wk.nil _ _⟩, ?_⟩ | refine ⟨⟨_, rfl, Wk.junk _⟩, ?_⟩)) (by repeat (first | exact trivial | refine ⟨rfl, ?_⟩)) rfl)
  rintro s' ⟨k, last, hk, hla, hbe, hmk, rfl⟩
  by_cases hlt : k < len
  ·obtain ⟨x, hx⟩ := get_lt hlen hlt
   have hxo := hol x (List.mem_of_getElem? hx)
   obtain ⟨xl, hxl⟩ : ∃ n, x.o.length = n := ⟨_, rfl⟩
   by_cases hok : last < x.s ∧ x.s < n ∧ 0 ≤ x.w ∧ x.w ≤ 1000000000 ∧ xl ≤ 800
   ·have hN : outOk x.o = true → B = mksOk n x.s (ms.drop (k + 1)) := fun ho => by
     rw [← hmk]; exact mksOk_yes (k := k) hx (mkOk_yes (by rw [hxl]; exact hok) ho)
    have hNo : outOk x.o = false → B = false := fun ho => by
     rw [← hmk]; exact mksOk_no (k := k) hx (mkOk_out ho)
    obtain ⟨xs, xw, xo⟩ := x
    simp only at hok hN hNo hxo hxl
    obtain ⟨h1, h2, h3, h4, h5⟩ := hok
    rw [hxl] at hxo
    rcases hbe with ⟨hk0, rfl⟩ | ⟨j0, p, hk0, hp, rfl⟩
    ·skip
     refine AW.seq ?_
     refine AW.seq ?_
     refine AW.region ?_
     refine AL.rp rfl rfl (rp_move rfl rfl) ?_
     (first | (refine AL.rp rfl rfl (rp_field_ref Try.underlying27 rfl rfl rfl inf25 (by decide) rfl) ?_) | (refine AL.rp rfl rfl (rp_field_ad Try.underlying27 rfl rfl rfl inf25 (by decide) rfl) ?_))
     (first | (refine AL.rd rfl rfl (rd_load_ref Try.underlying25 rfl rfl rfl rfl rfl rfl) ?_) | (refine AL.rd rfl rfl (rd_load_ad Try.underlying25 rfl rfl rfl rfl) ?_) | (refine AL.rd rfl rfl (rd_load_map Try.underlying25 rfl rfl rfl rfl rfl rfl (by assumption)) ?_) | (refine AL.rd rfl rfl (rd_load_flat Try.underlying25 rfl rfl rfl rfl rfl rfl (fun _ => rfl) (by assumption) rfl) ?_))
     (first | (refine AL.rp rfl rfl (rp_len_map Try.underlying25 rfl rfl (by assumption)) ?_) | (refine AL.rp rfl rfl (rp_len_own Try.underlying25 rfl rfl) ?_) | (refine AL.rp rfl rfl (rp_len_sl Try.underlying25 rfl rfl) ?_) | (refine AL.rp rfl rfl (rp_len_nil Try.underlying25 rfl rfl) ?_) | (refine AL.rp rfl rfl (rp_len_str Try.underlying25 rfl rfl) ?_))
     (first | (refine AL.rp rfl rfl (rp_lssT rfl rfl rfl (by first | assumption | omega | (dsimp only; omega))) ?_) | (refine AL.rp rfl rfl (rp_lssF rfl rfl rfl (by first | assumption | omega | (dsimp only; omega))) ?_) | (refine AL.rp rfl rfl (rp_lss rfl rfl rfl) ?_))
     refine AL.nil ?_
     try simp only [thenS, S.put]
     refine AW.condT rfl ?_
     refine AW.skip ?_
     try simp only [thenS]
     refine AW.seq ?_
     refine AW.block ?_
     refine AW.seq ?_
     refine AW.region ?_
     (first | (refine AL.rp rfl rfl (rp_field_ref Try.underlying27 rfl rfl rfl inf25 (by decide) rfl) ?_) | (refine AL.rp rfl rfl (rp_field_ad Try.underlying27 rfl rfl rfl inf25 (by decide) rfl) ?_))
     (first | (refine AL.rd rfl rfl (rd_load_ref Try.underlying25 rfl rfl rfl rfl rfl rfl) ?_) | (refine AL.rd rfl rfl (rd_load_ad Try.underlying25 rfl rfl rfl rfl) ?_) | (refine AL.rd rfl rfl (rd_load_map Try.underlying25 rfl rfl rfl rfl rfl rfl (by assumption)) ?_) | (refine AL.rd rfl rfl (rd_load_flat Try.underlying25 rfl rfl rfl rfl rfl rfl (fun _ => rfl) (by assumption) rfl) ?_))
     refine AL.rp rfl rfl (rp_move rfl rfl) ?_
     (first | (refine AL.rp rfl rfl (rp_index_map Try.underlying25 inf65 rfl rfl rfl rfl (by assumption)) ?_) | (refine AL.rp rfl rfl (rp_index_own Try.underlying25 inf65 rfl rfl rfl rfl (by first | assumption | omega)) ?_) | (refine AL.rp rfl rfl (rd_index_sl Try.underlying25 inf65 rfl rfl rfl rfl (by assumption)) ?_) | (refine AL.rp rfl rfl (rp_index_own Try.underlying25 inf65 rfl rfl rfl (by omega) (by omega)) ?_))
     (first | (refine AL.rd rfl rfl (rd_loads_ref Try.underlying65 rfl inf65 rfl rfl rfl rfl rfl rfl) ?_) | (refine AL.rd rfl rfl (rd_loads_ad Try.underlying65 rfl inf65 rfl rfl rfl rfl) ?_))
     refine AL.sm rfl (sm_alloc (l := [.d (.p (.int .i64 0)), .d (.p (.int .i64 0)), .d (.p (.slice none 0 0))]) 6 inf65 rfl (by first | rfl | simp [S.clean, S.put, S.newObj, S.forget, V.has, V.hasL, junkIf, setL, V.cs, hasL_i, hasL_b, hasL_s, hasL_n, hasL_rep, hasL_flat, hasL_append, -List.map_set]) rfl rfl) ?_
     refine AL.st rfl (st_store_any inf65 rfl rfl rfl rfl rfl rfl rfl rfl (by first | decide | (simp; done) | (simp; omega)) rfl) ?_
     refine AL.nil ?_
     try simp only [thenS, S.put, S.newObj, setL, V.cs, List.length_cons, List.length_nil, List.take_succ_cons, List.take_zero, List.drop_succ_cons, List.drop_zero, List.drop_nil, List.nil_append, List.cons_append, List.append_nil, Nat.zero_add, Nat.reduceAdd, List.map_cons, List.map_nil, List.set_cons_zero, List.set_cons_succ]
     refine AW.seq ?_
     refine AW.seq ?_
     refine AW.draw [(0, true), (1, true), (2, true), (3, true), (4, true), (5, true), (6, false), (7, false), (8, false), (9, false), (10, false), (11, false), (12, true), (13, true), (14, true), (15, true), (16, false), (17, false), (18, false), (19, false), (20, false), (21, false), (22, false), (23, false)] (fun i => !([] : List Nat).contains i) 24 (by kernel_rfl) (by kernel_rfl) rfl (by kernel_rfl) ?_
     (first | (refine AD1.rp rfl rfl rfl (fun _ _ h => h) (rp_field_ref Try.underlying65 rfl rfl rfl inf3 (by decide) rfl) ?_) | (refine AD1.rp rfl rfl rfl (fun _ _ h => h) (rp_field_ad Try.underlying65 rfl rfl rfl inf3 (by decide) rfl) ?_))
     (first | (refine AD1.rd rfl rfl rfl (fun _ _ h => h) (rd_load_ref Try.underlying3 rfl rfl rfl rfl rfl rfl) ?_) | (refine AD1.rd rfl rfl rfl (fun _ _ h => h) (rd_load_ad Try.underlying3 rfl rfl rfl rfl) ?_) | (refine AD1.rd rfl rfl rfl (fun _ _ h => h) (rd_load_map Try.underlying3 rfl rfl rfl rfl rfl rfl (by assumption)) ?_) | (refine AD1.rd rfl rfl rfl (fun _ _ h => h) (rd_load_flat Try.underlying3 rfl rfl rfl rfl rfl rfl (fun _ => rfl) (by assumption) rfl) ?_))
     (first | (refine AD1.rp rfl rfl rfl (fun _ _ h => h) (rp_field_ref Try.underlying24 rfl rfl rfl inf22 (by decide) rfl) ?_) | (refine AD1.rp rfl rfl rfl (fun _ _ h => h) (rp_field_ad Try.underlying24 rfl rfl rfl inf22 (by decide) rfl) ?_))
     (first | (refine AD1.rd rfl rfl rfl (fun _ _ h => h) (rd_load_ref Try.underlying22 rfl rfl rfl rfl rfl rfl) ?_) | (refine AD1.rd rfl rfl rfl (fun _ _ h => h) (rd_load_ad Try.underlying22 rfl rfl rfl rfl) ?_) | (refine AD1.rd rfl rfl rfl (fun _ _ h => h) (rd_load_map Try.underlying22 rfl rfl rfl rfl rfl rfl (by assumption)) ?_) | (refine AD1.rd rfl rfl rfl (fun _ _ h => h) (rd_load_flat Try.underlying22 rfl rfl rfl rfl rfl rfl (fun _ => rfl) (by assumption) rfl) ?_))
     (first | (refine AD1.rp rfl rfl rfl (fun _ _ h => h) (rp_len_map Try.underlying22 rfl rfl (by assumption)) ?_) | (refine AD1.rp rfl rfl rfl (fun _ _ h => h) (rp_len_own Try.underlying22 rfl rfl) ?_) | (refine AD1.rp rfl rfl rfl (fun _ _ h => h) (rp_len_sl Try.underlying22 rfl rfl) ?_) | (refine AD1.rp rfl rfl rfl (fun _ _ h => h) (rp_len_nil Try.underlying22 rfl rfl) ?_) | (refine AD1.rp rfl rfl rfl (fun _ _ h => h) (rp_len_str Try.underlying22 rfl rfl) ?_))
     refine AD1.rp rfl rfl rfl (fun _ _ h => h) (rp_sub rfl rfl rfl (by first | omega | (dsimp only; omega))) ?_
     refine AD1.goo [3, 6] rfl ?_
     refine AO.call (post := ?pc85) rfl rfl (sk_call (args := [_, _, _]) ?hc85 ⟨Try.func58, rfl, rfl, rfl, rfl⟩ rfl rfl rfl rfl) ?_
     case hc85 => first | (refine Fn.decT (am_In _ _ _) ?_; first | omega | (dsimp only; omega)) | (refine Fn.decF (am_In _ _ _) ?_; first | omega | (dsimp only; omega)) | exact am_In _ _ _
     rintro _ rfl -
     try dsimp only
     refine AO.rp1 rfl rfl rfl (rp_not rfl rfl) ?_
     refine AO.rp1 rfl rfl rfl (rp_move rfl rfl) ?_
     (first | (refine AO.noV1 rfl rfl rfl rfl rfl ?_) | (refine AO.noU1 rfl rfl ⟨_, rfl, rfl⟩ rfl ?_) | (refine AO.rp1y rfl rfl rfl rfl (rp_move rfl rfl) ?_))
     (first | (refine AO.noV1 rfl rfl rfl rfl rfl ?_) | (refine AO.noU1 rfl rfl ⟨_, rfl, rfl⟩ rfl ?_) | (refine AO.rp1y rfl rfl rfl rfl (rp_gtrT rfl rfl rfl (by first | assumption | omega | (dsimp only; omega))) ?_) | (refine AO.rp1y rfl rfl rfl rfl (rp_gtrF rfl rfl rfl (by first | assumption | omega | (dsimp only; omega))) ?_) | (refine AO.rp1y rfl rfl rfl rfl (rp_gtr rfl rfl rfl) ?_))
     (first | (refine AO.noV1 rfl rfl rfl rfl rfl ?_) | (refine AO.noU1 rfl rfl ⟨_, rfl, rfl⟩ rfl ?_) | (refine AO.rp1y rfl rfl rfl rfl (rp_move rfl rfl) ?_))
     (first | (refine AO.noV rfl rfl rfl rfl rfl (fun _ _ h => h) ?_) | (refine AO.noU rfl rfl ⟨_, rfl, rfl⟩ rfl (fun _ _ h => h) ?_) | (refine AO.rpy rfl rfl rfl rfl (fun _ _ h => h) (rp_field_ref Try.underlying65 rfl rfl rfl inf3 (by decide) rfl) ?_) | (refine AO.rpy rfl rfl rfl rfl (fun _ _ h => h) (rp_field_ad Try.underlying65 rfl rfl rfl inf3 (by decide) rfl) ?_))
     (first | (refine AO.rd rfl rfl rfl (fun _ _ h => h) (ro_load Try.underlying3 rfl rfl rfl rfl rfl rfl) (by decide) ?_) | (refine AO.noV rfl rfl rfl rfl rfl (fun _ _ h => h) ?_) | (refine AO.noU rfl rfl ⟨_, rfl, rfl⟩ rfl (fun _ _ h => h) ?_) | (refine AO.rdy rfl rfl rfl rfl (fun _ _ h => h) (ro_load Try.underlying3 rfl rfl rfl rfl rfl rfl) (by decide) ?_))
     (first | (refine AO.noV rfl rfl rfl rfl rfl (fun _ _ h => h) ?_) | (refine AO.noU rfl rfl ⟨_, rfl, rfl⟩ rfl (fun _ _ h => h) ?_) | (refine AO.rpy rfl rfl rfl rfl (fun _ _ h => h) (rp_field_ref Try.underlying27 rfl rfl rfl inf25 (by decide) rfl) ?_) | (refine AO.rpy rfl rfl rfl rfl (fun _ _ h => h) (rp_field_ad Try.underlying27 rfl rfl rfl inf25 (by decide) rfl) ?_))
     (first | (refine AO.rd rfl rfl rfl (fun _ _ h => h) (ro_load Try.underlying25 rfl rfl rfl rfl rfl rfl) (by decide) ?_) | (refine AO.noV rfl rfl rfl rfl rfl (fun _ _ h => h) ?_) | (refine AO.noU rfl rfl ⟨_, rfl, rfl⟩ rfl (fun _ _ h => h) ?_) | (refine AO.rdy rfl rfl rfl rfl (fun _ _ h => h) (ro_load Try.underlying25 rfl rfl rfl rfl rfl rfl) (by decide) ?_))
     (first | (refine AO.noV1 rfl rfl rfl rfl rfl ?_) | (refine AO.noU1 rfl rfl ⟨_, rfl, rfl⟩ rfl ?_) | (refine AO.rp1y rfl rfl rfl rfl (rp_move rfl rfl) ?_))
     (first | (refine AO.noV1 rfl rfl rfl rfl rfl ?_) | (refine AO.noU1 rfl rfl ⟨_, rfl, rfl⟩ rfl ?_) | (refine AO.rp1y rfl rfl rfl rfl (rp_sub rfl rfl rfl (by first | omega | (dsimp only; omega))) ?_))
     (first | (refine AO.noV1 rfl rfl rfl rfl rfl ?_) | (refine AO.noU1 rfl rfl ⟨_, rfl, rfl⟩ rfl ?_) | (refine AO.rp1y rfl rfl rfl rfl (rp_index_map Try.underlying25 inf65 rfl rfl rfl rfl (by assumption)) ?_) | (refine AO.rp1y rfl rfl rfl rfl (rp_index_own Try.underlying25 inf65 rfl rfl rfl rfl (by first | assumption | omega)) ?_) | (refine AO.rp1y rfl rfl rfl rfl (rd_index_sl Try.underlying25 inf65 rfl rfl rfl rfl (by assumption)) ?_) | (refine AO.rp1y rfl rfl rfl rfl (rp_index_own Try.underlying25 inf65 rfl rfl rfl (by omega) (by omega)) ?_))
     (first | (refine AO.noV1 rfl rfl rfl rfl rfl ?_) | (refine AO.noU1 rfl rfl ⟨_, rfl, rfl⟩ rfl ?_) | (refine AO.rp1y rfl rfl rfl rfl (rp_field_ref Try.underlying65 rfl rfl rfl inf3 (by decide) rfl) ?_) | (refine AO.rp1y rfl rfl rfl rfl (rp_field_ad Try.underlying65 rfl rfl rfl inf3 (by decide) rfl) ?_))
     (first | (refine AO.noV1 rfl rfl rfl rfl rfl ?_) | (refine AO.noU1 rfl rfl ⟨_, rfl, rfl⟩ rfl ?_) | (refine AO.rd1y rfl rfl rfl rfl (rd_load_ref Try.underlying3 rfl rfl rfl rfl rfl rfl) ?_) | (refine AO.rd1y rfl rfl rfl rfl (rd_load_ad Try.underlying3 rfl rfl rfl rfl) ?_) | (refine AO.rd1y rfl rfl rfl rfl (rd_load_map Try.underlying3 rfl rfl rfl rfl rfl rfl (by assumption)) ?_) | (refine AO.rd1y rfl rfl rfl rfl (rd_load_flat Try.underlying3 rfl rfl rfl rfl rfl rfl (fun _ => rfl) (by assumption) rfl) ?_))
     (first | (refine AO.noV1 rfl rfl rfl rfl rfl ?_) | (refine AO.noU1 rfl rfl ⟨_, rfl, rfl⟩ rfl ?_) | (refine AO.rp1y rfl rfl rfl rfl (rp_leqT rfl rfl rfl (by first | assumption | omega | (dsimp only; omega))) ?_) | (refine AO.rp1y rfl rfl rfl rfl (rp_leqF rfl rfl rfl (by first | assumption | omega | (dsimp only; omega))) ?_) | (refine AO.rp1y rfl rfl rfl rfl (rp_leq rfl rfl rfl) ?_))
     (first | (refine AO.noV1 rfl rfl rfl rfl rfl ?_) | (refine AO.noU1 rfl rfl ⟨_, rfl, rfl⟩ rfl ?_) | (refine AO.rp1y rfl rfl rfl rfl (rp_pick rfl rfl rfl) ?_))
     refine AO.rp1 rfl rfl rfl (rp_pick rfl rfl rfl) ?_
     refine AO.nil ?_
     try simp only [thenS, S.put]
     refine AW.condF rfl ?_
     refine AW.skip ?_
     try simp only [thenS]
     refine AW.seq ?_
     refine AW.seq ?_
     refine AW.region ?_
     (first | (refine AL.rp rfl rfl (rp_field_ref Try.underlying65 rfl rfl rfl inf3 (by decide) rfl) ?_) | (refine AL.rp rfl rfl (rp_field_ad Try.underlying65 rfl rfl rfl inf3 (by decide) rfl) ?_))
     (first | (refine AL.rd rfl rfl (rd_load_ref Try.underlying3 rfl rfl rfl rfl rfl rfl) ?_) | (refine AL.rd rfl rfl (rd_load_ad Try.underlying3 rfl rfl rfl rfl) ?_) | (refine AL.rd rfl rfl (rd_load_map Try.underlying3 rfl rfl rfl rfl rfl rfl (by assumption)) ?_) | (refine AL.rd rfl rfl (rd_load_flat Try.underlying3 rfl rfl rfl rfl rfl rfl (fun _ => rfl) (by assumption) rfl) ?_))
     refine AL.call (post := ?pc86) rfl (sm_call (args := [_, _, _]) ?hc86 ⟨Try.func58, rfl, rfl, rfl, rfl⟩ rfl rfl rfl rfl) ?_
     case hc86 => first | (refine Fn.decT (am_In _ _ _) ?_; first | omega | (dsimp only; omega)) | (refine Fn.decF (am_In _ _ _) ?_; first | omega | (dsimp only; omega)) | exact am_In _ _ _
     rintro _ rfl -
     try dsimp only
     refine AL.rp rfl rfl (rp_not rfl rfl) ?_
     refine AL.rp rfl rfl (rp_move rfl rfl) ?_
     (first | (refine AL.noV rfl rfl rfl rfl ?_) | (refine AL.noU rfl ⟨_, rfl, rfl⟩ rfl ?_) | (refine AL.rpy rfl rfl rfl (rp_field_ref Try.underlying65 rfl rfl rfl inf29 (by decide) rfl) ?_) | (refine AL.rpy rfl rfl rfl (rp_field_ad Try.underlying65 rfl rfl rfl inf29 (by decide) rfl) ?_))
     (first | (refine AL.noV rfl rfl rfl rfl ?_) | (refine AL.noU rfl ⟨_, rfl, rfl⟩ rfl ?_) | (refine AL.rdy rfl rfl rfl (rd_load_ref Try.underlying29 rfl rfl rfl rfl rfl rfl) ?_) | (refine AL.rdy rfl rfl rfl (rd_load_ad Try.underlying29 rfl rfl rfl rfl) ?_) | (refine AL.rdy rfl rfl rfl (rd_load_map Try.underlying29 rfl rfl rfl rfl rfl rfl (by assumption)) ?_) | (refine AL.rdy rfl rfl rfl (rd_load_flat Try.underlying29 rfl rfl rfl rfl rfl rfl (fun _ => rfl) (by assumption) rfl) ?_))
     (first | (refine AL.noV rfl rfl rfl rfl ?_) | (refine AL.noU rfl ⟨_, rfl, rfl⟩ rfl ?_) | (refine AL.rpy rfl rfl rfl (rp_len_map Try.underlying29 rfl rfl (by assumption)) ?_) | (refine AL.rpy rfl rfl rfl (rp_len_own Try.underlying29 rfl rfl) ?_) | (refine AL.rpy rfl rfl rfl (rp_len_sl Try.underlying29 rfl rfl) ?_) | (refine AL.rpy rfl rfl rfl (rp_len_nil Try.underlying29 rfl rfl) ?_) | (refine AL.rpy rfl rfl rfl (rp_len_str Try.underlying29 rfl rfl) ?_))
     (first | (refine AL.noV rfl rfl rfl rfl ?_) | (refine AL.noU rfl ⟨_, rfl, rfl⟩ rfl ?_) | (refine AL.rpy rfl rfl rfl (rp_gtrT rfl rfl rfl (by first | assumption | omega | (dsimp only; omega))) ?_) | (refine AL.rpy rfl rfl rfl (rp_gtrF rfl rfl rfl (by first | assumption | omega | (dsimp only; omega))) ?_) | (refine AL.rpy rfl rfl rfl (rp_gtr rfl rfl rfl) ?_))
     refine AL.rp rfl rfl (rp_pick rfl rfl rfl) ?_
     refine AL.nil ?_
     try simp only [thenS, S.put, S.newObj, setL, V.cs, List.length_cons, List.length_nil, List.take_succ_cons, List.take_zero, List.drop_succ_cons, List.drop_zero, List.drop_nil, List.nil_append, List.cons_append, List.append_nil, Nat.zero_add, Nat.reduceAdd, List.map_cons, List.map_nil, List.set_cons_zero, List.set_cons_succ]
     refine AW.condF rfl ?_
     refine AW.skip ?_
     try simp only [thenS]
     refine AW.seq ?_
     refine AW.region ?_
     refine AL.rp rfl rfl (rp_assign rfl rfl) ?_
     refine AL.nil ?_
     try simp only [thenS, S.put]
     refine AW.block ?_
     refine AW.loop (fun s' => ∃ j : Nat, j ≤ xl ∧ (xo.take j).all lab = true ∧ s' = ⟨72, [(2, .ref 2 0), (3, .ref 3 0), (5, .i k), (6, .ref 6 0), (7, .i j)], [(2, ⟨24, [.i st, .d (stsD sts)], false, 0⟩), (3, ⟨27, [.i fd, .d (mksD ms)], false, 0⟩), (6, ⟨65, [.i xs, .i xw, .d (intsD xo)], false, 0⟩)], []⟩) (fun s' => xl - s'.nat 7) ⟨_, ?_, 0, by omega, by simp, rfl⟩ ?_
     ·exact (Less.of rfl (by repeat (first | exact trivial | refine ⟨⟨_, rfl, Wk.refl _⟩, ?_⟩ | refine ⟨⟨_, rfl, Wk.nil _ _⟩, ?_⟩ | refine ⟨⟨_, rfl, Wk.junk _⟩, ?_⟩)) (by repeat (first | exact trivial | refine ⟨rfl, ?_⟩)) rfl)
     rintro s' ⟨j, hj, hall, rfl⟩
     by_cases hlj : j < xl
     ·obtain ⟨y, hy⟩ := get_lt hxl hlj
      by_cases hly : 1 ≤ y ∧ y ≤ 1000
      ·skip
       refine AW.seq ?_
       refine AW.seq ?_
       refine AW.region ?_
       refine AL.rp rfl rfl (rp_move rfl rfl) ?_
       (first | (refine AL.rp rfl rfl (rp_field_ref Try.underlying65 rfl rfl rfl inf29 (by decide) rfl) ?_) | (refine AL.rp rfl rfl (rp_field_ad Try.underlying65 rfl rfl rfl inf29 (by decide) rfl) ?_))
       (first | (refine AL.rd rfl rfl (rd_load_ref Try.underlying29 rfl rfl rfl rfl rfl rfl) ?_) | (refine AL.rd rfl rfl (rd_load_ad Try.underlying29 rfl rfl rfl rfl) ?_) | (refine AL.rd rfl rfl (rd_load_map Try.underlying29 rfl rfl rfl rfl rfl rfl (by assumption)) ?_) | (refine AL.rd rfl rfl (rd_load_flat Try.underlying29 rfl rfl rfl rfl rfl rfl (fun _ => rfl) (by assumption) rfl) ?_))
       (first | (refine AL.rp rfl rfl (rp_len_map Try.underlying29 rfl rfl (by assumption)) ?_) | (refine AL.rp rfl rfl (rp_len_own Try.underlying29 rfl rfl) ?_) | (refine AL.rp rfl rfl (rp_len_sl Try.underlying29 rfl rfl) ?_) | (refine AL.rp rfl rfl (rp_len_nil Try.underlying29 rfl rfl) ?_) | (refine AL.rp rfl rfl (rp_len_str Try.underlying29 rfl rfl) ?_))
       (first | (refine AL.rp rfl rfl (rp_lssT rfl rfl rfl (by first | assumption | omega | (dsimp only; omega))) ?_) | (refine AL.rp rfl rfl (rp_lssF rfl rfl rfl (by first | assumption | omega | (dsimp only; omega))) ?_) | (refine AL.rp rfl rfl (rp_lss rfl rfl rfl) ?_))
       refine AL.nil ?_
       try simp only [thenS, S.put]
       refine AW.condT rfl ?_
       refine AW.skip ?_
       try simp only [thenS]
       refine AW.seq ?_
       refine AW.block ?_
       refine AW.seq ?_
       refine AW.region ?_
       (first | (refine AL.rp rfl rfl (rp_field_ref Try.underlying65 rfl rfl rfl inf29 (by decide) rfl) ?_) | (refine AL.rp rfl rfl (rp_field_ad Try.underlying65 rfl rfl rfl inf29 (by decide) rfl) ?_))
       (first | (refine AL.rd rfl rfl (rd_load_ref Try.underlying29 rfl rfl rfl rfl rfl rfl) ?_) | (refine AL.rd rfl rfl (rd_load_ad Try.underlying29 rfl rfl rfl rfl) ?_) | (refine AL.rd rfl rfl (rd_load_map Try.underlying29 rfl rfl rfl rfl rfl rfl (by assumption)) ?_) | (refine AL.rd rfl rfl (rd_load_flat Try.underlying29 rfl rfl rfl rfl rfl rfl (fun _ => rfl) (by assumption) rfl) ?_))
       refine AL.rp rfl rfl (rp_move rfl rfl) ?_
       (first | (refine AL.rp rfl rfl (rp_index_map Try.underlying29 inf3 rfl rfl rfl rfl (by assumption)) ?_) | (refine AL.rp rfl rfl (rp_index_own Try.underlying29 inf3 rfl rfl rfl rfl (by first | assumption | omega)) ?_) | (refine AL.rp rfl rfl (rd_index_sl Try.underlying29 inf3 rfl rfl rfl rfl (by assumption)) ?_) | (refine AL.rp rfl rfl (rp_index_own Try.underlying29 inf3 rfl rfl rfl (by omega) (by omega)) ?_))
       (first | (refine AL.rd rfl rfl (rd_load_ref Try.underlying3 rfl rfl rfl rfl rfl rfl) ?_) | (refine AL.rd rfl rfl (rd_load_ad Try.underlying3 rfl rfl rfl rfl) ?_) | (refine AL.rd rfl rfl (rd_load_map Try.underlying3 rfl rfl rfl rfl rfl rfl (by assumption)) ?_) | (refine AL.rd rfl rfl (rd_load_flat Try.underlying3 rfl rfl rfl rfl rfl rfl (fun _ => rfl) (by assumption) rfl) ?_))
       refine AL.call (post := ?pc87) rfl (sm_call (args := [_, _, _]) ?hc87 ⟨Try.func58, rfl, rfl, rfl, rfl⟩ rfl rfl rfl rfl) ?_
       case hc87 => first | (refine Fn.decT (am_In _ _ _) ?_; first | omega | (dsimp only; omega)) | (refine Fn.decF (am_In _ _ _) ?_; first | omega | (dsimp only; omega)) | exact am_In _ _ _
       rintro _ rfl -
       try dsimp only
       refine AL.rp rfl rfl (rp_not rfl rfl) ?_
       refine AL.nil ?_
       try simp only [thenS, S.put, S.newObj, setL, V.cs, List.length_cons, List.length_nil, List.take_succ_cons, List.take_zero, List.drop_succ_cons, List.drop_zero, List.drop_nil, List.nil_append, List.cons_append, List.append_nil, Nat.zero_add, Nat.reduceAdd, List.map_cons, List.map_nil, List.set_cons_zero, List.set_cons_succ]
       refine AW.condF rfl ?_
       refine AW.skip ?_
       try simp only [thenS]
       refine AW.region ?_
       refine AL.rp rfl rfl (rp_move rfl rfl) ?_
       refine AL.rp rfl rfl (rp_add rfl rfl rfl (by first | omega | (dsimp only; omega))) ?_
       refine AL.rp rfl rfl (rp_assign rfl rfl) ?_
       refine AL.nil ?_
       try simp only [thenS, S.put]
       refine ⟨_, ?_, ⟨j + 1, by omega, all_snoc' hy hall (lab_yes hly), rfl⟩, ?_⟩
       ·exact (Less.of rfl (by repeat (first | exact trivial | refine ⟨⟨_, rfl, Wk.refl _⟩, ?_⟩ | refine ⟨⟨_, rfl, Wk.nil _ _⟩, ?_⟩ | refine ⟨⟨_, rfl, Wk.junk _⟩, ?_⟩)) (by repeat (first | exact trivial | refine ⟨rfl, ?_⟩)) rfl)
       ·simp [S.nat, fnd]; omega
      ·have hB0 := hNo (all_not hy (lab_no hly))
       subst hB0
       refine AW.seq ?_
       refine AW.seq ?_
       refine AW.region ?_
       refine AL.rp rfl rfl (rp_move rfl rfl) ?_
       (first | (refine AL.rp rfl rfl (rp_field_ref Try.underlying65 rfl rfl rfl inf29 (by decide) rfl) ?_) | (refine AL.rp rfl rfl (rp_field_ad Try.underlying65 rfl rfl rfl inf29 (by decide) rfl) ?_))
       (first | (refine AL.rd rfl rfl (rd_load_ref Try.underlying29 rfl rfl rfl rfl rfl rfl) ?_) | (refine AL.rd rfl rfl (rd_load_ad Try.underlying29 rfl rfl rfl rfl) ?_) | (refine AL.rd rfl rfl (rd_load_map Try.underlying29 rfl rfl rfl rfl rfl rfl (by assumption)) ?_) | (refine AL.rd rfl rfl (rd_load_flat Try.underlying29 rfl rfl rfl rfl rfl rfl (fun _ => rfl) (by assumption) rfl) ?_))
       (first | (refine AL.rp rfl rfl (rp_len_map Try.underlying29 rfl rfl (by assumption)) ?_) | (refine AL.rp rfl rfl (rp_len_own Try.underlying29 rfl rfl) ?_) | (refine AL.rp rfl rfl (rp_len_sl Try.underlying29 rfl rfl) ?_) | (refine AL.rp rfl rfl (rp_len_nil Try.underlying29 rfl rfl) ?_) | (refine AL.rp rfl rfl (rp_len_str Try.underlying29 rfl rfl) ?_))
       (first | (refine AL.rp rfl rfl (rp_lssT rfl rfl rfl (by first | assumption | omega | (dsimp only; omega))) ?_) | (refine AL.rp rfl rfl (rp_lssF rfl rfl rfl (by first | assumption | omega | (dsimp only; omega))) ?_) | (refine AL.rp rfl rfl (rp_lss rfl rfl rfl) ?_))
       refine AL.nil ?_
       try simp only [thenS, S.put]
       refine AW.condT rfl ?_
       refine AW.skip ?_
       try simp only [thenS]
       refine AW.seq ?_
       refine AW.block ?_
       refine AW.seq ?_
       refine AW.region ?_
       (first | (refine AL.rp rfl rfl (rp_field_ref Try.underlying65 rfl rfl rfl inf29 (by decide) rfl) ?_) | (refine AL.rp rfl rfl (rp_field_ad Try.underlying65 rfl rfl rfl inf29 (by decide) rfl) ?_))
       (first | (refine AL.rd rfl rfl (rd_load_ref Try.underlying29 rfl rfl rfl rfl rfl rfl) ?_) | (refine AL.rd rfl rfl (rd_load_ad Try.underlying29 rfl rfl rfl rfl) ?_) | (refine AL.rd rfl rfl (rd_load_map Try.underlying29 rfl rfl rfl rfl rfl rfl (by assumption)) ?_) | (refine AL.rd rfl rfl (rd_load_flat Try.underlying29 rfl rfl rfl rfl rfl rfl (fun _ => rfl) (by assumption) rfl) ?_))
       refine AL.rp rfl rfl (rp_move rfl rfl) ?_
       (first | (refine AL.rp rfl rfl (rp_index_map Try.underlying29 inf3 rfl rfl rfl rfl (by assumption)) ?_) | (refine AL.rp rfl rfl (rp_index_own Try.underlying29 inf3 rfl rfl rfl rfl (by first | assumption | omega)) ?_) | (refine AL.rp rfl rfl (rd_index_sl Try.underlying29 inf3 rfl rfl rfl rfl (by assumption)) ?_) | (refine AL.rp rfl rfl (rp_index_own Try.underlying29 inf3 rfl rfl rfl (by omega) (by omega)) ?_))
       (first | (refine AL.rd rfl rfl (rd_load_ref Try.underlying3 rfl rfl rfl rfl rfl rfl) ?_) | (refine AL.rd rfl rfl (rd_load_ad Try.underlying3 rfl rfl rfl rfl) ?_) | (refine AL.rd rfl rfl (rd_load_map Try.underlying3 rfl rfl rfl rfl rfl rfl (by assumption)) ?_) | (refine AL.rd rfl rfl (rd_load_flat Try.underlying3 rfl rfl rfl rfl rfl rfl (fun _ => rfl) (by assumption) rfl) ?_))
       refine AL.call (post := ?pc88) rfl (sm_call (args := [_, _, _]) ?hc88 ⟨Try.func58, rfl, rfl, rfl, rfl⟩ rfl rfl rfl rfl) ?_
       case hc88 => first | (refine Fn.decT (am_In _ _ _) ?_; first | omega | (dsimp only; omega)) | (refine Fn.decF (am_In _ _ _) ?_; first | omega | (dsimp only; omega)) | exact am_In _ _ _
       rintro _ rfl -
       try dsimp only
       refine AL.rp rfl rfl (rp_not rfl rfl) ?_
       refine AL.nil ?_
       try simp only [thenS, S.put, S.newObj, setL, V.cs, List.length_cons, List.length_nil, List.take_succ_cons, List.take_zero, List.drop_succ_cons, List.drop_zero, List.drop_nil, List.nil_append, List.cons_append, List.append_nil, Nat.zero_add, Nat.reduceAdd, List.map_cons, List.map_nil, List.set_cons_zero, List.set_cons_succ]
       refine AW.condT rfl ?_
       refine AW.seq ?_
       refine AW.region ?_
       refine AL.rp rfl rfl (rp_assign rfl rfl) ?_
       refine AL.nil ?_
       try simp only [thenS, S.put]
       refine AW.ret ?_
       exact ⟨[_], ⟨rfl, trivial⟩, rfl, by simp [tupOf, V.pure, V.has]⟩
     ·rw [List.take_of_length_le (by omega)] at hall
      have hB1 := hN hall
      refine AW.seq ?_
      refine AW.seq ?_
      refine AW.region ?_
      refine AL.rp rfl rfl (rp_move rfl rfl) ?_
      (first | (refine AL.rp rfl rfl (rp_field_ref Try.underlying65 rfl rfl rfl inf29 (by decide) rfl) ?_) | (refine AL.rp rfl rfl (rp_field_ad Try.underlying65 rfl rfl rfl inf29 (by decide) rfl) ?_))
      (first | (refine AL.rd rfl rfl (rd_load_ref Try.underlying29 rfl rfl rfl rfl rfl rfl) ?_) | (refine AL.rd rfl rfl (rd_load_ad Try.underlying29 rfl rfl rfl rfl) ?_) | (refine AL.rd rfl rfl (rd_load_map Try.underlying29 rfl rfl rfl rfl rfl rfl (by assumption)) ?_) | (refine AL.rd rfl rfl (rd_load_flat Try.underlying29 rfl rfl rfl rfl rfl rfl (fun _ => rfl) (by assumption) rfl) ?_))
      (first | (refine AL.rp rfl rfl (rp_len_map Try.underlying29 rfl rfl (by assumption)) ?_) | (refine AL.rp rfl rfl (rp_len_own Try.underlying29 rfl rfl) ?_) | (refine AL.rp rfl rfl (rp_len_sl Try.underlying29 rfl rfl) ?_) | (refine AL.rp rfl rfl (rp_len_nil Try.underlying29 rfl rfl) ?_) | (refine AL.rp rfl rfl (rp_len_str Try.underlying29 rfl rfl) ?_))
      (first | (refine AL.rp rfl rfl (rp_lssT rfl rfl rfl (by first | assumption | omega | (dsimp only; omega))) ?_) | (refine AL.rp rfl rfl (rp_lssF rfl rfl rfl (by first | assumption | omega | (dsimp only; omega))) ?_) | (refine AL.rp rfl rfl (rp_lss rfl rfl rfl) ?_))
      refine AL.nil ?_
      try simp only [thenS, S.put]
      refine AW.condF rfl ?_
      refine AW.exit ?_
      try simp only [thenS, inBlockS, ↓reduceIte, Nat.reduceEqDiff]
      refine AW.region ?_
      refine AL.rp rfl rfl (rp_move rfl rfl) ?_
      refine AL.rp rfl rfl (rp_add rfl rfl rfl (by first | omega | (dsimp only; omega))) ?_
      refine AL.rp rfl rfl (rp_assign rfl rfl) ?_
      refine AL.nil ?_
      try simp only [thenS, S.put]
      refine ⟨_, ?_, ⟨k + 1, xs, by omega, by omega, .inr ⟨k, ⟨xs, xw, xo⟩, rfl, hx, rfl⟩, hB1.symm, rfl⟩, ?_⟩
      ·exact (Less.of rfl (by repeat (first | exact trivial | refine ⟨⟨_, rfl, Wk.refl _⟩, ?_⟩ | refine ⟨⟨_, rfl, Wk.nil _ _⟩, ?_⟩ | refine ⟨⟨_, rfl, Wk.junk _⟩, ?_⟩)) (by repeat (first | exact trivial | refine ⟨rfl, ?_⟩)) rfl)
      ·simp [S.nat, fnd]; omega
    ·obtain ⟨ps, pw, po⟩ := p
     simp only at hla hmk h1
     refine AW.seq ?_
     refine AW.seq ?_
     refine AW.region ?_
     refine AL.rp rfl rfl (rp_move rfl rfl) ?_
     (first | (refine AL.rp rfl rfl (rp_field_ref Try.underlying27 rfl rfl rfl inf25 (by decide) rfl) ?_) | (refine AL.rp rfl rfl (rp_field_ad Try.underlying27 rfl rfl rfl inf25 (by decide) rfl) ?_))
     (first | (refine AL.rd rfl rfl (rd_load_ref Try.underlying25 rfl rfl rfl rfl rfl rfl) ?_) | (refine AL.rd rfl rfl (rd_load_ad Try.underlying25 rfl rfl rfl rfl) ?_) | (refine AL.rd rfl rfl (rd_load_map Try.underlying25 rfl rfl rfl rfl rfl rfl (by assumption)) ?_) | (refine AL.rd rfl rfl (rd_load_flat Try.underlying25 rfl rfl rfl rfl rfl rfl (fun _ => rfl) (by assumption) rfl) ?_))
     (first | (refine AL.rp rfl rfl (rp_len_map Try.underlying25 rfl rfl (by assumption)) ?_) | (refine AL.rp rfl rfl (rp_len_own Try.underlying25 rfl rfl) ?_) | (refine AL.rp rfl rfl (rp_len_sl Try.underlying25 rfl rfl) ?_) | (refine AL.rp rfl rfl (rp_len_nil Try.underlying25 rfl rfl) ?_) | (refine AL.rp rfl rfl (rp_len_str Try.underlying25 rfl rfl) ?_))
     (first | (refine AL.rp rfl rfl (rp_lssT rfl rfl rfl (by first | assumption | omega | (dsimp only; omega))) ?_) | (refine AL.rp rfl rfl (rp_lssF rfl rfl rfl (by first | assumption | omega | (dsimp only; omega))) ?_) | (refine AL.rp rfl rfl (rp_lss rfl rfl rfl) ?_))
     refine AL.nil ?_
     try simp only [thenS, S.put]
     refine AW.condT rfl ?_
     refine AW.skip ?_
     try simp only [thenS]
     refine AW.seq ?_
     refine AW.block ?_
     refine AW.seq ?_
     refine AW.region ?_
     (first | (refine AL.rp rfl rfl (rp_field_ref Try.underlying27 rfl rfl rfl inf25 (by decide) rfl) ?_) | (refine AL.rp rfl rfl (rp_field_ad Try.underlying27 rfl rfl rfl inf25 (by decide) rfl) ?_))
     (first | (refine AL.rd rfl rfl (rd_load_ref Try.underlying25 rfl rfl rfl rfl rfl rfl) ?_) | (refine AL.rd rfl rfl (rd_load_ad Try.underlying25 rfl rfl rfl rfl) ?_) | (refine AL.rd rfl rfl (rd_load_map Try.underlying25 rfl rfl rfl rfl rfl rfl (by assumption)) ?_) | (refine AL.rd rfl rfl (rd_load_flat Try.underlying25 rfl rfl rfl rfl rfl rfl (fun _ => rfl) (by assumption) rfl) ?_))
     refine AL.rp rfl rfl (rp_move rfl rfl) ?_
     (first | (refine AL.rp rfl rfl (rp_index_map Try.underlying25 inf65 rfl rfl rfl rfl (by assumption)) ?_) | (refine AL.rp rfl rfl (rp_index_own Try.underlying25 inf65 rfl rfl rfl rfl (by first | assumption | omega)) ?_) | (refine AL.rp rfl rfl (rd_index_sl Try.underlying25 inf65 rfl rfl rfl rfl (by assumption)) ?_) | (refine AL.rp rfl rfl (rp_index_own Try.underlying25 inf65 rfl rfl rfl (by omega) (by omega)) ?_))
     (first | (refine AL.rd rfl rfl (rd_loads_ref Try.underlying65 rfl inf65 rfl rfl rfl rfl rfl rfl) ?_) | (refine AL.rd rfl rfl (rd_loads_ad Try.underlying65 rfl inf65 rfl rfl rfl rfl) ?_))
     refine AL.sm rfl (sm_alloc (l := [.d (.p (.int .i64 0)), .d (.p (.int .i64 0)), .d (.p (.slice none 0 0))]) 6 inf65 rfl (by first | rfl | simp [S.clean, S.put, S.newObj, S.forget, V.has, V.hasL, junkIf, setL, V.cs, hasL_i, hasL_b, hasL_s, hasL_n, hasL_rep, hasL_flat, hasL_append, -List.map_set]) rfl rfl) ?_
     refine AL.st rfl (st_store_any inf65 rfl rfl rfl rfl rfl rfl rfl rfl (by first | decide | (simp; done) | (simp; omega)) rfl) ?_
     refine AL.nil ?_
     try simp only [thenS, S.put, S.newObj, setL, V.cs, List.length_cons, List.length_nil, List.take_succ_cons, List.take_zero, List.drop_succ_cons, List.drop_zero, List.drop_nil, List.nil_append, List.cons_append, List.append_nil, Nat.zero_add, Nat.reduceAdd, List.map_cons, List.map_nil, List.set_cons_zero, List.set_cons_succ]
     refine AW.seq ?_
     refine AW.seq ?_
     refine AW.draw [(0, true), (1, true), (2, true), (3, true), (4, true), (5, true), (6, false), (7, false), (8, false), (9, false), (10, false), (11, false), (12, true), (13, true), (14, true), (15, true), (16, false), (17, false), (18, false), (19, false), (20, false), (21, false), (22, false), (23, false)] (fun i => !([] : List Nat).contains i) 24 (by kernel_rfl) (by kernel_rfl) rfl (by kernel_rfl) ?_
     (first | (refine AD1.rp rfl rfl rfl (fun _ _ h => h) (rp_field_ref Try.underlying65 rfl rfl rfl inf3 (by decide) rfl) ?_) | (refine AD1.rp rfl rfl rfl (fun _ _ h => h) (rp_field_ad Try.underlying65 rfl rfl rfl inf3 (by decide) rfl) ?_))
     (first | (refine AD1.rd rfl rfl rfl (fun _ _ h => h) (rd_load_ref Try.underlying3 rfl rfl rfl rfl rfl rfl) ?_) | (refine AD1.rd rfl rfl rfl (fun _ _ h => h) (rd_load_ad Try.underlying3 rfl rfl rfl rfl) ?_) | (refine AD1.rd rfl rfl rfl (fun _ _ h => h) (rd_load_map Try.underlying3 rfl rfl rfl rfl rfl rfl (by assumption)) ?_) | (refine AD1.rd rfl rfl rfl (fun _ _ h => h) (rd_load_flat Try.underlying3 rfl rfl rfl rfl rfl rfl (fun _ => rfl) (by assumption) rfl) ?_))
     (first | (refine AD1.rp rfl rfl rfl (fun _ _ h => h) (rp_field_ref Try.underlying24 rfl rfl rfl inf22 (by decide) rfl) ?_) | (refine AD1.rp rfl rfl rfl (fun _ _ h => h) (rp_field_ad Try.underlying24 rfl rfl rfl inf22 (by decide) rfl) ?_))
     (first | (refine AD1.rd rfl rfl rfl (fun _ _ h => h) (rd_load_ref Try.underlying22 rfl rfl rfl rfl rfl rfl) ?_) | (refine AD1.rd rfl rfl rfl (fun _ _ h => h) (rd_load_ad Try.underlying22 rfl rfl rfl rfl) ?_) | (refine AD1.rd rfl rfl rfl (fun _ _ h => h) (rd_load_map Try.underlying22 rfl rfl rfl rfl rfl rfl (by assumption)) ?_) | (refine AD1.rd rfl rfl rfl (fun _ _ h => h) (rd_load_flat Try.underlying22 rfl rfl rfl rfl rfl rfl (fun _ => rfl) (by assumption) rfl) ?_))
     (first | (refine AD1.rp rfl rfl rfl (fun _ _ h => h) (rp_len_map Try.underlying22 rfl rfl (by assumption)) ?_) | (refine AD1.rp rfl rfl rfl (fun _ _ h => h) (rp_len_own Try.underlying22 rfl rfl) ?_) | (refine AD1.rp rfl rfl rfl (fun _ _ h => h) (rp_len_sl Try.underlying22 rfl rfl) ?_) | (refine AD1.rp rfl rfl rfl (fun _ _ h => h) (rp_len_nil Try.underlying22 rfl rfl) ?_) | (refine AD1.rp rfl rfl rfl (fun _ _ h => h) (rp_len_str Try.underlying22 rfl rfl) ?_))
     refine AD1.rp rfl rfl rfl (fun _ _ h => h) (rp_sub rfl rfl rfl (by first | omega | (dsimp only; omega))) ?_
     refine AD1.goo [3, 6] rfl ?_
     refine AO.call (post := ?pc89) rfl rfl (sk_call (args := [_, _, _]) ?hc89 ⟨Try.func58, rfl, rfl, rfl, rfl⟩ rfl rfl rfl rfl) ?_
     case hc89 => first | (refine Fn.decT (am_In _ _ _) ?_; first | omega | (dsimp only; omega)) | (refine Fn.decF (am_In _ _ _) ?_; first | omega | (dsimp only; omega)) | exact am_In _ _ _
     rintro _ rfl -
     try dsimp only
     refine AO.rp1 rfl rfl rfl (rp_not rfl rfl) ?_
     refine AO.rp1 rfl rfl rfl (rp_move rfl rfl) ?_
     (first | (refine AO.noV1 rfl rfl rfl rfl rfl ?_) | (refine AO.noU1 rfl rfl ⟨_, rfl, rfl⟩ rfl ?_) | (refine AO.rp1y rfl rfl rfl rfl (rp_move rfl rfl) ?_))
     (first | (refine AO.noV1 rfl rfl rfl rfl rfl ?_) | (refine AO.noU1 rfl rfl ⟨_, rfl, rfl⟩ rfl ?_) | (refine AO.rp1y rfl rfl rfl rfl (rp_gtrT rfl rfl rfl (by first | assumption | omega | (dsimp only; omega))) ?_) | (refine AO.rp1y rfl rfl rfl rfl (rp_gtrF rfl rfl rfl (by first | assumption | omega | (dsimp only; omega))) ?_) | (refine AO.rp1y rfl rfl rfl rfl (rp_gtr rfl rfl rfl) ?_))
     (first | (refine AO.noV1 rfl rfl rfl rfl rfl ?_) | (refine AO.noU1 rfl rfl ⟨_, rfl, rfl⟩ rfl ?_) | (refine AO.rp1y rfl rfl rfl rfl (rp_move rfl rfl) ?_))
     (first | (refine AO.noV rfl rfl rfl rfl rfl (fun _ _ h => h) ?_) | (refine AO.noU rfl rfl ⟨_, rfl, rfl⟩ rfl (fun _ _ h => h) ?_) | (refine AO.rpy rfl rfl rfl rfl (fun _ _ h => h) (rp_field_ref Try.underlying65 rfl rfl rfl inf3 (by decide) rfl) ?_) | (refine AO.rpy rfl rfl rfl rfl (fun _ _ h => h) (rp_field_ad Try.underlying65 rfl rfl rfl inf3 (by decide) rfl) ?_))
     (first | (refine AO.rd rfl rfl rfl (fun _ _ h => h) (ro_load Try.underlying3 rfl rfl rfl rfl rfl rfl) (by decide) ?_) | (refine AO.noV rfl rfl rfl rfl rfl (fun _ _ h => h) ?_) | (refine AO.noU rfl rfl ⟨_, rfl, rfl⟩ rfl (fun _ _ h => h) ?_) | (refine AO.rdy rfl rfl rfl rfl (fun _ _ h => h) (ro_load Try.underlying3 rfl rfl rfl rfl rfl rfl) (by decide) ?_))
     (first | (refine AO.noV rfl rfl rfl rfl rfl (fun _ _ h => h) ?_) | (refine AO.noU rfl rfl ⟨_, rfl, rfl⟩ rfl (fun _ _ h => h) ?_) | (refine AO.rpy rfl rfl rfl rfl (fun _ _ h => h) (rp_field_ref Try.underlying27 rfl rfl rfl inf25 (by decide) rfl) ?_) | (refine AO.rpy rfl rfl rfl rfl (fun _ _ h => h) (rp_field_ad Try.underlying27 rfl rfl rfl inf25 (by decide) rfl) ?_))
     (first | (refine AO.rd rfl rfl rfl (fun _ _ h => h) (ro_load Try.underlying25 rfl rfl rfl rfl rfl rfl) (by decide) ?_) | (refine AO.noV rfl rfl rfl rfl rfl (fun _ _ h => h) ?_) | (refine AO.noU rfl rfl ⟨_, rfl, rfl⟩ rfl (fun _ _ h => h) ?_) | (refine AO.rdy rfl rfl rfl rfl (fun _ _ h => h) (ro_load Try.underlying25 rfl rfl rfl rfl rfl rfl) (by decide) ?_))
     (first | (refine AO.noV1 rfl rfl rfl rfl rfl ?_) | (refine AO.noU1 rfl rfl ⟨_, rfl, rfl⟩ rfl ?_) | (refine AO.rp1y rfl rfl rfl rfl (rp_move rfl rfl) ?_))
     (first | (refine AO.noV1 rfl rfl rfl rfl rfl ?_) | (refine AO.noU1 rfl rfl ⟨_, rfl, rfl⟩ rfl ?_) | (refine AO.rp1y rfl rfl rfl rfl (rp_sub rfl rfl rfl (by first | omega | (dsimp only; omega))) ?_))
     (first | (refine AO.noV1 rfl rfl rfl rfl rfl ?_) | (refine AO.noU1 rfl rfl ⟨_, rfl, rfl⟩ rfl ?_) | (refine AO.rp1y rfl rfl rfl rfl (rp_index_own (k := j0) Try.underlying25 inf65 rfl rfl rfl (by omega) (by omega)) ?_) | (refine AO.rp1y rfl rfl rfl rfl (rp_index_map (k := j0) Try.underlying25 inf65 rfl rfl rfl (by omega) (by assumption)) ?_))
     (first | (refine AO.noV1 rfl rfl rfl rfl rfl ?_) | (refine AO.noU1 rfl rfl ⟨_, rfl, rfl⟩ rfl ?_) | (refine AO.rp1y rfl rfl rfl rfl (rp_field_ref Try.underlying65 rfl rfl rfl inf3 (by decide) rfl) ?_) | (refine AO.rp1y rfl rfl rfl rfl (rp_field_ad Try.underlying65 rfl rfl rfl inf3 (by decide) rfl) ?_))
     (first | (refine AO.noV1 rfl rfl rfl rfl rfl ?_) | (refine AO.noU1 rfl rfl ⟨_, rfl, rfl⟩ rfl ?_) | (refine AO.rd1y rfl rfl rfl rfl (rd_load_ref Try.underlying3 rfl rfl rfl rfl rfl rfl) ?_) | (refine AO.rd1y rfl rfl rfl rfl (rd_load_ad Try.underlying3 rfl rfl rfl rfl) ?_) | (refine AO.rd1y rfl rfl rfl rfl (rd_load_map Try.underlying3 rfl rfl rfl rfl rfl rfl (by assumption)) ?_) | (refine AO.rd1y rfl rfl rfl rfl (rd_load_flat Try.underlying3 rfl rfl rfl rfl rfl rfl (fun _ => rfl) (by assumption) rfl) ?_))
     (first | (refine AO.noV1 rfl rfl rfl rfl rfl ?_) | (refine AO.noU1 rfl rfl ⟨_, rfl, rfl⟩ rfl ?_) | (refine AO.rp1y rfl rfl rfl rfl (rp_leqT rfl rfl rfl (by first | assumption | omega | (dsimp only; omega))) ?_) | (refine AO.rp1y rfl rfl rfl rfl (rp_leqF rfl rfl rfl (by first | assumption | omega | (dsimp only; omega))) ?_) | (refine AO.rp1y rfl rfl rfl rfl (rp_leq rfl rfl rfl) ?_))
     (first | (refine AO.noV1 rfl rfl rfl rfl rfl ?_) | (refine AO.noU1 rfl rfl ⟨_, rfl, rfl⟩ rfl ?_) | (refine AO.rp1y rfl rfl rfl rfl (rp_pick rfl rfl rfl) ?_))
     refine AO.rp1 rfl rfl rfl (rp_pick rfl rfl rfl) ?_
     refine AO.nil ?_
     try simp only [thenS, S.put]
     refine AW.condF rfl ?_
     refine AW.skip ?_
     try simp only [thenS]
     refine AW.seq ?_
     refine AW.seq ?_
     refine AW.region ?_
     (first | (refine AL.rp rfl rfl (rp_field_ref Try.underlying65 rfl rfl rfl inf3 (by decide) rfl) ?_) | (refine AL.rp rfl rfl (rp_field_ad Try.underlying65 rfl rfl rfl inf3 (by decide) rfl) ?_))
     (first | (refine AL.rd rfl rfl (rd_load_ref Try.underlying3 rfl rfl rfl rfl rfl rfl) ?_) | (refine AL.rd rfl rfl (rd_load_ad Try.underlying3 rfl rfl rfl rfl) ?_) | (refine AL.rd rfl rfl (rd_load_map Try.underlying3 rfl rfl rfl rfl rfl rfl (by assumption)) ?_) | (refine AL.rd rfl rfl (rd_load_flat Try.underlying3 rfl rfl rfl rfl rfl rfl (fun _ => rfl) (by assumption) rfl) ?_))
     refine AL.call (post := ?pc90) rfl (sm_call (args := [_, _, _]) ?hc90 ⟨Try.func58, rfl, rfl, rfl, rfl⟩ rfl rfl rfl rfl) ?_
     case hc90 => first | (refine Fn.decT (am_In _ _ _) ?_; first | omega | (dsimp only; omega)) | (refine Fn.decF (am_In _ _ _) ?_; first | omega | (dsimp only; omega)) | exact am_In _ _ _
     rintro _ rfl -
     try dsimp only
     refine AL.rp rfl rfl (rp_not rfl rfl) ?_
     refine AL.rp rfl rfl (rp_move rfl rfl) ?_
     (first | (refine AL.noV rfl rfl rfl rfl ?_) | (refine AL.noU rfl ⟨_, rfl, rfl⟩ rfl ?_) | (refine AL.rpy rfl rfl rfl (rp_field_ref Try.underlying65 rfl rfl rfl inf29 (by decide) rfl) ?_) | (refine AL.rpy rfl rfl rfl (rp_field_ad Try.underlying65 rfl rfl rfl inf29 (by decide) rfl) ?_))
     (first | (refine AL.noV rfl rfl rfl rfl ?_) | (refine AL.noU rfl ⟨_, rfl, rfl⟩ rfl ?_) | (refine AL.rdy rfl rfl rfl (rd_load_ref Try.underlying29 rfl rfl rfl rfl rfl rfl) ?_) | (refine AL.rdy rfl rfl rfl (rd_load_ad Try.underlying29 rfl rfl rfl rfl) ?_) | (refine AL.rdy rfl rfl rfl (rd_load_map Try.underlying29 rfl rfl rfl rfl rfl rfl (by assumption)) ?_) | (refine AL.rdy rfl rfl rfl (rd_load_flat Try.underlying29 rfl rfl rfl rfl rfl rfl (fun _ => rfl) (by assumption) rfl) ?_))
     (first | (refine AL.noV rfl rfl rfl rfl ?_) | (refine AL.noU rfl ⟨_, rfl, rfl⟩ rfl ?_) | (refine AL.rpy rfl rfl rfl (rp_len_map Try.underlying29 rfl rfl (by assumption)) ?_) | (refine AL.rpy rfl rfl rfl (rp_len_own Try.underlying29 rfl rfl) ?_) | (refine AL.rpy rfl rfl rfl (rp_len_sl Try.underlying29 rfl rfl) ?_) | (refine AL.rpy rfl rfl rfl (rp_len_nil Try.underlying29 rfl rfl) ?_) | (refine AL.rpy rfl rfl rfl (rp_len_str Try.underlying29 rfl rfl) ?_))
     (first | (refine AL.noV rfl rfl rfl rfl ?_) | (refine AL.noU rfl ⟨_, rfl, rfl⟩ rfl ?_) | (refine AL.rpy rfl rfl rfl (rp_gtrT rfl rfl rfl (by first | assumption | omega | (dsimp only; omega))) ?_) | (refine AL.rpy rfl rfl rfl (rp_gtrF rfl rfl rfl (by first | assumption | omega | (dsimp only; omega))) ?_) | (refine AL.rpy rfl rfl rfl (rp_gtr rfl rfl rfl) ?_))
     refine AL.rp rfl rfl (rp_pick rfl rfl rfl) ?_
     refine AL.nil ?_
     try simp only [thenS, S.put, S.newObj, setL, V.cs, List.length_cons, List.length_nil, List.take_succ_cons, List.take_zero, List.drop_succ_cons, List.drop_zero, List.drop_nil, List.nil_append, List.cons_append, List.append_nil, Nat.zero_add, Nat.reduceAdd, List.map_cons, List.map_nil, List.set_cons_zero, List.set_cons_succ]
     refine AW.condF rfl ?_
     refine AW.skip ?_
     try simp only [thenS]
     refine AW.seq ?_
     refine AW.region ?_
     refine AL.rp rfl rfl (rp_assign rfl rfl) ?_
     refine AL.nil ?_
     try simp only [thenS, S.put]
     refine AW.block ?_
     refine AW.loop (fun s' => ∃ j : Nat, j ≤ xl ∧ (xo.take j).all lab = true ∧ s' = ⟨72, [(2, .ref 2 0), (3, .ref 3 0), (5, .i k), (6, .ref 6 0), (7, .i j)], [(2, ⟨24, [.i st, .d (stsD sts)], false, 0⟩), (3, ⟨27, [.i fd, .d (mksD ms)], false, 0⟩), (6, ⟨65, [.i xs, .i xw, .d (intsD xo)], false, 0⟩)], []⟩) (fun s' => xl - s'.nat 7) ⟨_, ?_, 0, by omega, by simp, rfl⟩ ?_
     ·exact (Less.of rfl (by repeat (first | exact trivial | refine ⟨⟨_, rfl, Wk.refl _⟩, ?_⟩ | refine ⟨⟨_, rfl, Wk.nil _ _⟩, ?_⟩ | refine ⟨⟨_, rfl, Wk.junk _⟩, ?_⟩)) (by repeat (first | exact trivial | refine ⟨rfl, ?_⟩)) rfl)
     rintro s' ⟨j, hj, hall, rfl⟩
     by_cases hlj : j < xl
     ·obtain ⟨y, hy⟩ := get_lt hxl hlj
      by_cases hly : 1 ≤ y ∧ y ≤ 1000
      ·skip
       refine AW.seq ?_
       refine AW.seq ?_
       refine AW.region ?_
       refine AL.rp rfl rfl (rp_move rfl rfl) ?_
       (first | (refine AL.rp rfl rfl (rp_field_ref Try.underlying65 rfl rfl rfl inf29 (by decide) rfl) ?_) | (refine AL.rp rfl rfl (rp_field_ad Try.underlying65 rfl rfl rfl inf29 (by decide) rfl) ?_))
       (first | (refine AL.rd rfl rfl (rd_load_ref Try.underlying29 rfl rfl rfl rfl rfl rfl) ?_) | (refine AL.rd rfl rfl (rd_load_ad Try.underlying29 rfl rfl rfl rfl) ?_) | (refine AL.rd rfl rfl (rd_load_map Try.underlying29 rfl rfl rfl rfl rfl rfl (by assumption)) ?_) | (refine AL.rd rfl rfl (rd_load_flat Try.underlying29 rfl rfl rfl rfl rfl rfl (fun _ => rfl) (by assumption) rfl) ?_))
       (first | (refine AL.rp rfl rfl (rp_len_map Try.underlying29 rfl rfl (by assumption)) ?_) | (refine AL.rp rfl rfl (rp_len_own Try.underlying29 rfl rfl) ?_) | (refine AL.rp rfl rfl (rp_len_sl Try.underlying29 rfl rfl) ?_) | (refine AL.rp rfl rfl (rp_len_nil Try.underlying29 rfl rfl) ?_) | (refine AL.rp rfl rfl (rp_len_str Try.underlying29 rfl rfl) ?_))
       (first | (refine AL.rp rfl rfl (rp_lssT rfl rfl rfl (by first | assumption | omega | (dsimp only; omega))) ?_) | (refine AL.rp rfl rfl (rp_lssF rfl rfl rfl (by first | assumption | omega | (dsimp only; omega))) ?_) | (refine AL.rp rfl rfl (rp_lss rfl rfl rfl) ?_))
       refine AL.nil ?_
       try simp only [thenS, S.put]
       refine AW.condT rfl ?_
       refine AW.skip ?_
       try simp only [thenS]
       refine AW.seq ?_
       refine AW.block ?_
       refine AW.seq ?_
       refine AW.region ?_
       (first | (refine AL.rp rfl rfl (rp_field_ref Try.underlying65 rfl rfl rfl inf29 (by decide) rfl) ?_) | (refine AL.rp rfl rfl (rp_field_ad Try.underlying65 rfl rfl rfl inf29 (by decide) rfl) ?_))
       (first | (refine AL.rd rfl rfl (rd_load_ref Try.underlying29 rfl rfl rfl rfl rfl rfl) ?_) | (refine AL.rd rfl rfl (rd_load_ad Try.underlying29 rfl rfl rfl rfl) ?_) | (refine AL.rd rfl rfl (rd_load_map Try.underlying29 rfl rfl rfl rfl rfl rfl (by assumption)) ?_) | (refine AL.rd rfl rfl (rd_load_flat Try.underlying29 rfl rfl rfl rfl rfl rfl (fun _ => rfl) (by assumption) rfl) ?_))
       refine AL.rp rfl rfl (rp_move rfl rfl) ?_
       (first | (refine AL.rp rfl rfl (rp_index_map Try.underlying29 inf3 rfl rfl rfl rfl (by assumption)) ?_) | (refine AL.rp rfl rfl (rp_index_own Try.underlying29 inf3 rfl rfl rfl rfl (by first | assumption | omega)) ?_) | (refine AL.rp rfl rfl (rd_index_sl Try.underlying29 inf3 rfl rfl rfl rfl (by assumption)) ?_) | (refine AL.rp rfl rfl (rp_index_own Try.underlying29 inf3 rfl rfl rfl (by omega) (by omega)) ?_))
       (first | (refine AL.rd rfl rfl (rd_load_ref Try.underlying3 rfl rfl rfl rfl rfl rfl) ?_) | (refine AL.rd rfl rfl (rd_load_ad Try.underlying3 rfl rfl rfl rfl) ?_) | (refine AL.rd rfl rfl (rd_load_map Try.underlying3 rfl rfl rfl rfl rfl rfl (by assumption)) ?_) | (refine AL.rd rfl rfl (rd_load_flat Try.underlying3 rfl rfl rfl rfl rfl rfl (fun _ => rfl) (by assumption) rfl) ?_))
       refine AL.call (post := ?pc91) rfl (sm_call (args := [_, _, _]) ?hc91 ⟨Try.func58, rfl, rfl, rfl, rfl⟩ rfl rfl rfl rfl) ?_
       case hc91 => first | (refine Fn.decT (am_In _ _ _) ?_; first | omega | (dsimp only; omega)) | (refine Fn.decF (am_In _ _ _) ?_; first | omega | (dsimp only; omega)) | exact am_In _ _ _
       rintro _ rfl -
       try dsimp only
       refine AL.rp rfl rfl (rp_not rfl rfl) ?_
       refine AL.nil ?_
       try simp only [thenS, S.put, S.newObj, setL, V.cs, List.length_cons, List.length_nil, List.take_succ_cons, List.take_zero, List.drop_succ_cons, List.drop_zero, List.drop_nil, List.nil_append, List.cons_append, List.append_nil, Nat.zero_add, Nat.reduceAdd, List.map_cons, List.map_nil, List.set_cons_zero, List.set_cons_succ]
       refine AW.condF rfl ?_
       refine AW.skip ?_
       try simp only [thenS]
       refine AW.region ?_
       refine AL.rp rfl rfl (rp_move rfl rfl) ?_
       refine AL.rp rfl rfl (rp_add rfl rfl rfl (by first | omega | (dsimp only; omega))) ?_
       refine AL.rp rfl rfl (rp_assign rfl rfl) ?_
       refine AL.nil ?_
       try simp only [thenS, S.put]
       refine ⟨_, ?_, ⟨j + 1, by omega, all_snoc' hy hall (lab_yes hly), rfl⟩, ?_⟩
       ·exact (Less.of rfl (by repeat (first | exact trivial | refine ⟨⟨_, rfl, Wk.refl _⟩, ?_⟩ | refine ⟨⟨_, rfl, Wk.nil _ _⟩, ?_⟩ | refine ⟨⟨_, rfl, Wk.junk _⟩, ?_⟩)) (by repeat (first | exact trivial | refine ⟨rfl, ?_⟩)) rfl)
       ·simp [S.nat, fnd]; omega
      ·have hB0 := hNo (all_not hy (lab_no hly))
       subst hB0
       refine AW.seq ?_
       refine AW.seq ?_
       refine AW.region ?_
       refine AL.rp rfl rfl (rp_move rfl rfl) ?_
       (first | (refine AL.rp rfl rfl (rp_field_ref Try.underlying65 rfl rfl rfl inf29 (by decide) rfl) ?_) | (refine AL.rp rfl rfl (rp_field_ad Try.underlying65 rfl rfl rfl inf29 (by decide) rfl) ?_))
       (first | (refine AL.rd rfl rfl (rd_load_ref Try.underlying29 rfl rfl rfl rfl rfl rfl) ?_) | (refine AL.rd rfl rfl (rd_load_ad Try.underlying29 rfl rfl rfl rfl) ?_) | (refine AL.rd rfl rfl (rd_load_map Try.underlying29 rfl rfl rfl rfl rfl rfl (by assumption)) ?_) | (refine AL.rd rfl rfl (rd_load_flat Try.underlying29 rfl rfl rfl rfl rfl rfl (fun _ => rfl) (by assumption) rfl) ?_))
       (first | (refine AL.rp rfl rfl (rp_len_map Try.underlying29 rfl rfl (by assumption)) ?_) | (refine AL.rp rfl rfl (rp_len_own Try.underlying29 rfl rfl) ?_) | (refine AL.rp rfl rfl (rp_len_sl Try.underlying29 rfl rfl) ?_) | (refine AL.rp rfl rfl (rp_len_nil Try.underlying29 rfl rfl) ?_) | (refine AL.rp rfl rfl (rp_len_str Try.underlying29 rfl rfl) ?_))
       (first | (refine AL.rp rfl rfl (rp_lssT rfl rfl rfl (by first | assumption | omega | (dsimp only; omega))) ?_) | (refine AL.rp rfl rfl (rp_lssF rfl rfl rfl (by first | assumption | omega | (dsimp only; omega))) ?_) | (refine AL.rp rfl rfl (rp_lss rfl rfl rfl) ?_))
       refine AL.nil ?_
       try simp only [thenS, S.put]
       refine AW.condT rfl ?_
       refine AW.skip ?_
       try simp only [thenS]
       refine AW.seq ?_
       refine AW.block ?_
       refine AW.seq ?_
       refine AW.region ?_
       (first | (refine AL.rp rfl rfl (rp_field_ref Try.underlying65 rfl rfl rfl inf29 (by decide) rfl) ?_) | (refine AL.rp rfl rfl (rp_field_ad Try.underlying65 rfl rfl rfl inf29 (by decide) rfl) ?_))
       (first | (refine AL.rd rfl rfl (rd_load_ref Try.underlying29 rfl rfl rfl rfl rfl rfl) ?_) | (refine AL.rd rfl rfl (rd_load_ad Try.underlying29 rfl rfl rfl rfl) ?_) | (refine AL.rd rfl rfl (rd_load_map Try.underlying29 rfl rfl rfl rfl rfl rfl (by assumption)) ?_) | (refine AL.rd rfl rfl (rd_load_flat Try.underlying29 rfl rfl rfl rfl rfl rfl (fun _ => rfl) (by assumption) rfl) ?_))
       refine AL.rp rfl rfl (rp_move rfl rfl) ?_
       (first | (refine AL.rp rfl rfl (rp_index_map Try.underlying29 inf3 rfl rfl rfl rfl (by assumption)) ?_) | (refine AL.rp rfl rfl (rp_index_own Try.underlying29 inf3 rfl rfl rfl rfl (by first | assumption | omega)) ?_) | (refine AL.rp rfl rfl (rd_index_sl Try.underlying29 inf3 rfl rfl rfl rfl (by assumption)) ?_) | (refine AL.rp rfl rfl (rp_index_own Try.underlying29 inf3 rfl rfl rfl (by omega) (by omega)) ?_))
       (first | (refine AL.rd rfl rfl (rd_load_ref Try.underlying3 rfl rfl rfl rfl rfl rfl) ?_) | (refine AL.rd rfl rfl (rd_load_ad Try.underlying3 rfl rfl rfl rfl) ?_) | (refine AL.rd rfl rfl (rd_load_map Try.underlying3 rfl rfl rfl rfl rfl rfl (by assumption)) ?_) | (refine AL.rd rfl rfl (rd_load_flat Try.underlying3 rfl rfl rfl rfl rfl rfl (fun _ => rfl) (by assumption) rfl) ?_))
       refine AL.call (post := ?pc92) rfl (sm_call (args := [_, _, _]) ?hc92 ⟨Try.func58, rfl, rfl, rfl, rfl⟩ rfl rfl rfl rfl) ?_
       case hc92 => first | (refine Fn.decT (am_In _ _ _) ?_; first | omega | (dsimp only; omega)) | (refine Fn.decF (am_In _ _ _) ?_; first | omega | (dsimp only; omega)) | exact am_In _ _ _
       rintro _ rfl -
       try dsimp only
       refine AL.rp rfl rfl (rp_not rfl rfl) ?_
       refine AL.nil ?_
       try simp only [thenS, S.put, S.newObj, setL, V.cs, List.length_cons, List.length_nil, List.take_succ_cons, List.take_zero, List.drop_succ_cons, List.drop_zero, List.drop_nil, List.nil_append, List.cons_append, List.append_nil, Nat.zero_add, Nat.reduceAdd, List.map_cons, List.map_nil, List.set_cons_zero, List.set_cons_succ]
       refine AW.condT rfl ?_
       refine AW.seq ?_
       refine AW.region ?_
       refine AL.rp rfl rfl (rp_assign rfl rfl) ?_
       refine AL.nil ?_
       try simp only [thenS, S.put]
       refine AW.ret ?_
       exact ⟨[_], ⟨rfl, trivial⟩, rfl, by simp [tupOf, V.pure, V.has]⟩
     ·rw [List.take_of_length_le (by omega)] at hall
      have hB1 := hN hall
      refine AW.seq ?_
      refine AW.seq ?_
      refine AW.region ?_
      refine AL.rp rfl rfl (rp_move rfl rfl) ?_
      (first | (refine AL.rp rfl rfl (rp_field_ref Try.underlying65 rfl rfl rfl inf29 (by decide) rfl) ?_) | (refine AL.rp rfl rfl (rp_field_ad Try.underlying65 rfl rfl rfl inf29 (by decide) rfl) ?_))
      (first | (refine AL.rd rfl rfl (rd_load_ref Try.underlying29 rfl rfl rfl rfl rfl rfl) ?_) | (refine AL.rd rfl rfl (rd_load_ad Try.underlying29 rfl rfl rfl rfl) ?_) | (refine AL.rd rfl rfl (rd_load_map Try.underlying29 rfl rfl rfl rfl rfl rfl (by assumption)) ?_) | (refine AL.rd rfl rfl (rd_load_flat Try.underlying29 rfl rfl rfl rfl rfl rfl (fun _ => rfl) (by assumption) rfl) ?_))
      (first | (refine AL.rp rfl rfl (rp_len_map Try.underlying29 rfl rfl (by assumption)) ?_) | (refine AL.rp rfl rfl (rp_len_own Try.underlying29 rfl rfl) ?_) | (refine AL.rp rfl rfl (rp_len_sl Try.underlying29 rfl rfl) ?_) | (refine AL.rp rfl rfl (rp_len_nil Try.underlying29 rfl rfl) ?_) | (refine AL.rp rfl rfl (rp_len_str Try.underlying29 rfl rfl) ?_))
      (first | (refine AL.rp rfl rfl (rp_lssT rfl rfl rfl (by first | assumption | omega | (dsimp only; omega))) ?_) | (refine AL.rp rfl rfl (rp_lssF rfl rfl rfl (by first | assumption | omega | (dsimp only; omega))) ?_) | (refine AL.rp rfl rfl (rp_lss rfl rfl rfl) ?_))
      refine AL.nil ?_
      try simp only [thenS, S.put]
      refine AW.condF rfl ?_
      refine AW.exit ?_
      try simp only [thenS, inBlockS, ↓reduceIte, Nat.reduceEqDiff]
      refine AW.region ?_
      refine AL.rp rfl rfl (rp_move rfl rfl) ?_
      refine AL.rp rfl rfl (rp_add rfl rfl rfl (by first | omega | (dsimp only; omega))) ?_
      refine AL.rp rfl rfl (rp_assign rfl rfl) ?_
      refine AL.nil ?_
      try simp only [thenS, S.put]
      refine ⟨_, ?_, ⟨k + 1, xs, by omega, by omega, .inr ⟨k, ⟨xs, xw, xo⟩, rfl, hx, rfl⟩, hB1.symm, rfl⟩, ?_⟩
      ·exact (Less.of rfl (by repeat (first | exact trivial | refine ⟨⟨_, rfl, Wk.refl _⟩, ?_⟩ | refine ⟨⟨_, rfl, Wk.nil _ _⟩, ?_⟩ | refine ⟨⟨_, rfl, Wk.junk _⟩, ?_⟩)) (by repeat (first | exact trivial | refine ⟨rfl, ?_⟩)) rfl)
      ·simp [S.nat, fnd]; omega
   ·have hN := mksOk_no (k := k) hx (mkOk_no (n := n) (last := last) (by rw [hxl]; exact hok))
    rw [hmk] at hN
    subst hN
    obtain ⟨xs, xw, xo⟩ := x
    simp only at hok hxo hxl
    by_cases h12 : 0 ≤ xs ∧ xs ≤ (n : Int) - 1
    ·by_cases hl : last < xs
     ·by_cases hw : 0 ≤ xw ∧ xw ≤ 1000000000
      ·have h5 : ¬ xl ≤ 800 := fun h5 => hok ⟨hl, by omega, hw.1, hw.2, h5⟩
       clear hok
       rcases hbe with ⟨hk0, rfl⟩ | ⟨j0, p, hk0, hp, rfl⟩
       ·skip
        refine AW.seq ?_
        refine AW.seq ?_
        refine AW.region ?_
        refine AL.rp rfl rfl (rp_move rfl rfl) ?_
        (first | (refine AL.rp rfl rfl (rp_field_ref Try.underlying27 rfl rfl rfl inf25 (by decide) rfl) ?_) | (refine AL.rp rfl rfl (rp_field_ad Try.underlying27 rfl rfl rfl inf25 (by decide) rfl) ?_))
        (first | (refine AL.rd rfl rfl (rd_load_ref Try.underlying25 rfl rfl rfl rfl rfl rfl) ?_) | (refine AL.rd rfl rfl (rd_load_ad Try.underlying25 rfl rfl rfl rfl) ?_) | (refine AL.rd rfl rfl (rd_load_map Try.underlying25 rfl rfl rfl rfl rfl rfl (by assumption)) ?_) | (refine AL.rd rfl rfl (rd_load_flat Try.underlying25 rfl rfl rfl rfl rfl rfl (fun _ => rfl) (by assumption) rfl) ?_))
        (first | (refine AL.rp rfl rfl (rp_len_map Try.underlying25 rfl rfl (by assumption)) ?_) | (refine AL.rp rfl rfl (rp_len_own Try.underlying25 rfl rfl) ?_) | (refine AL.rp rfl rfl (rp_len_sl Try.underlying25 rfl rfl) ?_) | (refine AL.rp rfl rfl (rp_len_nil Try.underlying25 rfl rfl) ?_) | (refine AL.rp rfl rfl (rp_len_str Try.underlying25 rfl rfl) ?_))
        (first | (refine AL.rp rfl rfl (rp_lssT rfl rfl rfl (by first | assumption | omega | (dsimp only; omega))) ?_) | (refine AL.rp rfl rfl (rp_lssF rfl rfl rfl (by first | assumption | omega | (dsimp only; omega))) ?_) | (refine AL.rp rfl rfl (rp_lss rfl rfl rfl) ?_))
        refine AL.nil ?_
        try simp only [thenS, S.put]
        refine AW.condT rfl ?_
        refine AW.skip ?_
        try simp only [thenS]
        refine AW.seq ?_
        refine AW.block ?_
        refine AW.seq ?_
        refine AW.region ?_
        (first | (refine AL.rp rfl rfl (rp_field_ref Try.underlying27 rfl rfl rfl inf25 (by decide) rfl) ?_) | (refine AL.rp rfl rfl (rp_field_ad Try.underlying27 rfl rfl rfl inf25 (by decide) rfl) ?_))
        (first | (refine AL.rd rfl rfl (rd_load_ref Try.underlying25 rfl rfl rfl rfl rfl rfl) ?_) | (refine AL.rd rfl rfl (rd_load_ad Try.underlying25 rfl rfl rfl rfl) ?_) | (refine AL.rd rfl rfl (rd_load_map Try.underlying25 rfl rfl rfl rfl rfl rfl (by assumption)) ?_) | (refine AL.rd rfl rfl (rd_load_flat Try.underlying25 rfl rfl rfl rfl rfl rfl (fun _ => rfl) (by assumption) rfl) ?_))
        refine AL.rp rfl rfl (rp_move rfl rfl) ?_
        (first | (refine AL.rp rfl rfl (rp_index_map Try.underlying25 inf65 rfl rfl rfl rfl (by assumption)) ?_) | (refine AL.rp rfl rfl (rp_index_own Try.underlying25 inf65 rfl rfl rfl rfl (by first | assumption | omega)) ?_) | (refine AL.rp rfl rfl (rd_index_sl Try.underlying25 inf65 rfl rfl rfl rfl (by assumption)) ?_) | (refine AL.rp rfl rfl (rp_index_own Try.underlying25 inf65 rfl rfl rfl (by omega) (by omega)) ?_))
        (first | (refine AL.rd rfl rfl (rd_loads_ref Try.underlying65 rfl inf65 rfl rfl rfl rfl rfl rfl) ?_) | (refine AL.rd rfl rfl (rd_loads_ad Try.underlying65 rfl inf65 rfl rfl rfl rfl) ?_))
        refine AL.sm rfl (sm_alloc (l := [.d (.p (.int .i64 0)), .d (.p (.int .i64 0)), .d (.p (.slice none 0 0))]) 6 inf65 rfl (by first | rfl | simp [S.clean, S.put, S.newObj, S.forget, V.has, V.hasL, junkIf, setL, V.cs, hasL_i, hasL_b, hasL_s, hasL_n, hasL_rep, hasL_flat, hasL_append, -List.map_set]) rfl rfl) ?_
        refine AL.st rfl (st_store_any inf65 rfl rfl rfl rfl rfl rfl rfl rfl (by first | decide | (simp; done) | (simp; omega)) rfl) ?_
        refine AL.nil ?_
        try simp only [thenS, S.put, S.newObj, setL, V.cs, List.length_cons, List.length_nil, List.take_succ_cons, List.take_zero, List.drop_succ_cons, List.drop_zero, List.drop_nil, List.nil_append, List.cons_append, List.append_nil, Nat.zero_add, Nat.reduceAdd, List.map_cons, List.map_nil, List.set_cons_zero, List.set_cons_succ]
        refine AW.seq ?_
        refine AW.seq ?_
        refine AW.draw [(0, true), (1, true), (2, true), (3, true), (4, true), (5, true), (6, false), (7, false), (8, false), (9, false), (10, false), (11, false), (12, true), (13, true), (14, true), (15, true), (16, false), (17, false), (18, false), (19, false), (20, false), (21, false), (22, false), (23, false)] (fun i => !([] : List Nat).contains i) 24 (by kernel_rfl) (by kernel_rfl) rfl (by kernel_rfl) ?_
        (first | (refine AD1.rp rfl rfl rfl (fun _ _ h => h) (rp_field_ref Try.underlying65 rfl rfl rfl inf3 (by decide) rfl) ?_) | (refine AD1.rp rfl rfl rfl (fun _ _ h => h) (rp_field_ad Try.underlying65 rfl rfl rfl inf3 (by decide) rfl) ?_))
        (first | (refine AD1.rd rfl rfl rfl (fun _ _ h => h) (rd_load_ref Try.underlying3 rfl rfl rfl rfl rfl rfl) ?_) | (refine AD1.rd rfl rfl rfl (fun _ _ h => h) (rd_load_ad Try.underlying3 rfl rfl rfl rfl) ?_) | (refine AD1.rd rfl rfl rfl (fun _ _ h => h) (rd_load_map Try.underlying3 rfl rfl rfl rfl rfl rfl (by assumption)) ?_) | (refine AD1.rd rfl rfl rfl (fun _ _ h => h) (rd_load_flat Try.underlying3 rfl rfl rfl rfl rfl rfl (fun _ => rfl) (by assumption) rfl) ?_))
        (first | (refine AD1.rp rfl rfl rfl (fun _ _ h => h) (rp_field_ref Try.underlying24 rfl rfl rfl inf22 (by decide) rfl) ?_) | (refine AD1.rp rfl rfl rfl (fun _ _ h => h) (rp_field_ad Try.underlying24 rfl rfl rfl inf22 (by decide) rfl) ?_))
        (first | (refine AD1.rd rfl rfl rfl (fun _ _ h => h) (rd_load_ref Try.underlying22 rfl rfl rfl rfl rfl rfl) ?_) | (refine AD1.rd rfl rfl rfl (fun _ _ h => h) (rd_load_ad Try.underlying22 rfl rfl rfl rfl) ?_) | (refine AD1.rd rfl rfl rfl (fun _ _ h => h) (rd_load_map Try.underlying22 rfl rfl rfl rfl rfl rfl (by assumption)) ?_) | (refine AD1.rd rfl rfl rfl (fun _ _ h => h) (rd_load_flat Try.underlying22 rfl rfl rfl rfl rfl rfl (fun _ => rfl) (by assumption) rfl) ?_))
        (first | (refine AD1.rp rfl rfl rfl (fun _ _ h => h) (rp_len_map Try.underlying22 rfl rfl (by assumption)) ?_) | (refine AD1.rp rfl rfl rfl (fun _ _ h => h) (rp_len_own Try.underlying22 rfl rfl) ?_) | (refine AD1.rp rfl rfl rfl (fun _ _ h => h) (rp_len_sl Try.underlying22 rfl rfl) ?_) | (refine AD1.rp rfl rfl rfl (fun _ _ h => h) (rp_len_nil Try.underlying22 rfl rfl) ?_) | (refine AD1.rp rfl rfl rfl (fun _ _ h => h) (rp_len_str Try.underlying22 rfl rfl) ?_))
        refine AD1.rp rfl rfl rfl (fun _ _ h => h) (rp_sub rfl rfl rfl (by first | omega | (dsimp only; omega))) ?_
        refine AD1.goo [3, 6] rfl ?_
        refine AO.call (post := ?pc93) rfl rfl (sk_call (args := [_, _, _]) ?hc93 ⟨Try.func58, rfl, rfl, rfl, rfl⟩ rfl rfl rfl rfl) ?_
        case hc93 => first | (refine Fn.decT (am_In _ _ _) ?_; first | omega | (dsimp only; omega)) | (refine Fn.decF (am_In _ _ _) ?_; first | omega | (dsimp only; omega)) | exact am_In _ _ _
        rintro _ rfl -
        try dsimp only
        refine AO.rp1 rfl rfl rfl (rp_not rfl rfl) ?_
        refine AO.rp1 rfl rfl rfl (rp_move rfl rfl) ?_
        (first | (refine AO.noV1 rfl rfl rfl rfl rfl ?_) | (refine AO.noU1 rfl rfl ⟨_, rfl, rfl⟩ rfl ?_) | (refine AO.rp1y rfl rfl rfl rfl (rp_move rfl rfl) ?_))
        (first | (refine AO.noV1 rfl rfl rfl rfl rfl ?_) | (refine AO.noU1 rfl rfl ⟨_, rfl, rfl⟩ rfl ?_) | (refine AO.rp1y rfl rfl rfl rfl (rp_gtrT rfl rfl rfl (by first | assumption | omega | (dsimp only; omega))) ?_) | (refine AO.rp1y rfl rfl rfl rfl (rp_gtrF rfl rfl rfl (by first | assumption | omega | (dsimp only; omega))) ?_) | (refine AO.rp1y rfl rfl rfl rfl (rp_gtr rfl rfl rfl) ?_))
        (first | (refine AO.noV1 rfl rfl rfl rfl rfl ?_) | (refine AO.noU1 rfl rfl ⟨_, rfl, rfl⟩ rfl ?_) | (refine AO.rp1y rfl rfl rfl rfl (rp_move rfl rfl) ?_))
        (first | (refine AO.noV rfl rfl rfl rfl rfl (fun _ _ h => h) ?_) | (refine AO.noU rfl rfl ⟨_, rfl, rfl⟩ rfl (fun _ _ h => h) ?_) | (refine AO.rpy rfl rfl rfl rfl (fun _ _ h => h) (rp_field_ref Try.underlying65 rfl rfl rfl inf3 (by decide) rfl) ?_) | (refine AO.rpy rfl rfl rfl rfl (fun _ _ h => h) (rp_field_ad Try.underlying65 rfl rfl rfl inf3 (by decide) rfl) ?_))
        (first | (refine AO.rd rfl rfl rfl (fun _ _ h => h) (ro_load Try.underlying3 rfl rfl rfl rfl rfl rfl) (by decide) ?_) | (refine AO.noV rfl rfl rfl rfl rfl (fun _ _ h => h) ?_) | (refine AO.noU rfl rfl ⟨_, rfl, rfl⟩ rfl (fun _ _ h => h) ?_) | (refine AO.rdy rfl rfl rfl rfl (fun _ _ h => h) (ro_load Try.underlying3 rfl rfl rfl rfl rfl rfl) (by decide) ?_))
        (first | (refine AO.noV rfl rfl rfl rfl rfl (fun _ _ h => h) ?_) | (refine AO.noU rfl rfl ⟨_, rfl, rfl⟩ rfl (fun _ _ h => h) ?_) | (refine AO.rpy rfl rfl rfl rfl (fun _ _ h => h) (rp_field_ref Try.underlying27 rfl rfl rfl inf25 (by decide) rfl) ?_) | (refine AO.rpy rfl rfl rfl rfl (fun _ _ h => h) (rp_field_ad Try.underlying27 rfl rfl rfl inf25 (by decide) rfl) ?_))
        (first | (refine AO.rd rfl rfl rfl (fun _ _ h => h) (ro_load Try.underlying25 rfl rfl rfl rfl rfl rfl) (by decide) ?_) | (refine AO.noV rfl rfl rfl rfl rfl (fun _ _ h => h) ?_) | (refine AO.noU rfl rfl ⟨_, rfl, rfl⟩ rfl (fun _ _ h => h) ?_) | (refine AO.rdy rfl rfl rfl rfl (fun _ _ h => h) (ro_load Try.underlying25 rfl rfl rfl rfl rfl rfl) (by decide) ?_))
        (first | (refine AO.noV1 rfl rfl rfl rfl rfl ?_) | (refine AO.noU1 rfl rfl ⟨_, rfl, rfl⟩ rfl ?_) | (refine AO.rp1y rfl rfl rfl rfl (rp_move rfl rfl) ?_))
        (first | (refine AO.noV1 rfl rfl rfl rfl rfl ?_) | (refine AO.noU1 rfl rfl ⟨_, rfl, rfl⟩ rfl ?_) | (refine AO.rp1y rfl rfl rfl rfl (rp_sub rfl rfl rfl (by first | omega | (dsimp only; omega))) ?_))
        (first | (refine AO.noV1 rfl rfl rfl rfl rfl ?_) | (refine AO.noU1 rfl rfl ⟨_, rfl, rfl⟩ rfl ?_) | (refine AO.rp1y rfl rfl rfl rfl (rp_index_own (k := j0) Try.underlying25 inf65 rfl rfl rfl (by omega) (by omega)) ?_) | (refine AO.rp1y rfl rfl rfl rfl (rp_index_map (k := j0) Try.underlying25 inf65 rfl rfl rfl (by omega) (by assumption)) ?_))
        (first | (refine AO.noV1 rfl rfl rfl rfl rfl ?_) | (refine AO.noU1 rfl rfl ⟨_, rfl, rfl⟩ rfl ?_) | (refine AO.rp1y rfl rfl rfl rfl (rp_field_ref Try.underlying65 rfl rfl rfl inf3 (by decide) rfl) ?_) | (refine AO.rp1y rfl rfl rfl rfl (rp_field_ad Try.underlying65 rfl rfl rfl inf3 (by decide) rfl) ?_))
        (first | (refine AO.noV1 rfl rfl rfl rfl rfl ?_) | (refine AO.noU1 rfl rfl ⟨_, rfl, rfl⟩ rfl ?_) | (refine AO.rd1y rfl rfl rfl rfl (rd_load_ref Try.underlying3 rfl rfl rfl rfl rfl rfl) ?_) | (refine AO.rd1y rfl rfl rfl rfl (rd_load_ad Try.underlying3 rfl rfl rfl rfl) ?_) | (refine AO.rd1y rfl rfl rfl rfl (rd_load_map Try.underlying3 rfl rfl rfl rfl rfl rfl (by assumption)) ?_) | (refine AO.rd1y rfl rfl rfl rfl (rd_load_flat Try.underlying3 rfl rfl rfl rfl rfl rfl (fun _ => rfl) (by assumption) rfl) ?_))
        (first | (refine AO.noV1 rfl rfl rfl rfl rfl ?_) | (refine AO.noU1 rfl rfl ⟨_, rfl, rfl⟩ rfl ?_) | (refine AO.rp1y rfl rfl rfl rfl (rp_leqT rfl rfl rfl (by first | assumption | omega | (dsimp only; omega))) ?_) | (refine AO.rp1y rfl rfl rfl rfl (rp_leqF rfl rfl rfl (by first | assumption | omega | (dsimp only; omega))) ?_) | (refine AO.rp1y rfl rfl rfl rfl (rp_leq rfl rfl rfl) ?_))
        (first | (refine AO.noV1 rfl rfl rfl rfl rfl ?_) | (refine AO.noU1 rfl rfl ⟨_, rfl, rfl⟩ rfl ?_) | (refine AO.rp1y rfl rfl rfl rfl (rp_pick rfl rfl rfl) ?_))
        refine AO.rp1 rfl rfl rfl (rp_pick rfl rfl rfl) ?_
        refine AO.nil ?_
        try simp only [thenS, S.put]
        refine AW.condF rfl ?_
        refine AW.skip ?_
        try simp only [thenS]
        refine AW.seq ?_
        refine AW.seq ?_
        refine AW.region ?_
        (first | (refine AL.rp rfl rfl (rp_field_ref Try.underlying65 rfl rfl rfl inf3 (by decide) rfl) ?_) | (refine AL.rp rfl rfl (rp_field_ad Try.underlying65 rfl rfl rfl inf3 (by decide) rfl) ?_))
        (first | (refine AL.rd rfl rfl (rd_load_ref Try.underlying3 rfl rfl rfl rfl rfl rfl) ?_) | (refine AL.rd rfl rfl (rd_load_ad Try.underlying3 rfl rfl rfl rfl) ?_) | (refine AL.rd rfl rfl (rd_load_map Try.underlying3 rfl rfl rfl rfl rfl rfl (by assumption)) ?_) | (refine AL.rd rfl rfl (rd_load_flat Try.underlying3 rfl rfl rfl rfl rfl rfl (fun _ => rfl) (by assumption) rfl) ?_))
        refine AL.call (post := ?pc94) rfl (sm_call (args := [_, _, _]) ?hc94 ⟨Try.func58, rfl, rfl, rfl, rfl⟩ rfl rfl rfl rfl) ?_
        case hc94 => first | (refine Fn.decT (am_In _ _ _) ?_; first | omega | (dsimp only; omega)) | (refine Fn.decF (am_In _ _ _) ?_; first | omega | (dsimp only; omega)) | exact am_In _ _ _
        rintro _ rfl -
        try dsimp only
        refine AL.rp rfl rfl (rp_not rfl rfl) ?_
        refine AL.rp rfl rfl (rp_move rfl rfl) ?_
        (first | (refine AL.noV rfl rfl rfl rfl ?_) | (refine AL.noU rfl ⟨_, rfl, rfl⟩ rfl ?_) | (refine AL.rpy rfl rfl rfl (rp_field_ref Try.underlying65 rfl rfl rfl inf29 (by decide) rfl) ?_) | (refine AL.rpy rfl rfl rfl (rp_field_ad Try.underlying65 rfl rfl rfl inf29 (by decide) rfl) ?_))
        (first | (refine AL.noV rfl rfl rfl rfl ?_) | (refine AL.noU rfl ⟨_, rfl, rfl⟩ rfl ?_) | (refine AL.rdy rfl rfl rfl (rd_load_ref Try.underlying29 rfl rfl rfl rfl rfl rfl) ?_) | (refine AL.rdy rfl rfl rfl (rd_load_ad Try.underlying29 rfl rfl rfl rfl) ?_) | (refine AL.rdy rfl rfl rfl (rd_load_map Try.underlying29 rfl rfl rfl rfl rfl rfl (by assumption)) ?_) | (refine AL.rdy rfl rfl rfl (rd_load_flat Try.underlying29 rfl rfl rfl rfl rfl rfl (fun _ => rfl) (by assumption) rfl) ?_))
        (first | (refine AL.noV rfl rfl rfl rfl ?_) | (refine AL.noU rfl ⟨_, rfl, rfl⟩ rfl ?_) | (refine AL.rpy rfl rfl rfl (rp_len_map Try.underlying29 rfl rfl (by assumption)) ?_) | (refine AL.rpy rfl rfl rfl (rp_len_own Try.underlying29 rfl rfl) ?_) | (refine AL.rpy rfl rfl rfl (rp_len_sl Try.underlying29 rfl rfl) ?_) | (refine AL.rpy rfl rfl rfl (rp_len_nil Try.underlying29 rfl rfl) ?_) | (refine AL.rpy rfl rfl rfl (rp_len_str Try.underlying29 rfl rfl) ?_))
        (first | (refine AL.noV rfl rfl rfl rfl ?_) | (refine AL.noU rfl ⟨_, rfl, rfl⟩ rfl ?_) | (refine AL.rpy rfl rfl rfl (rp_gtrT rfl rfl rfl (by first | assumption | omega | (dsimp only; omega))) ?_) | (refine AL.rpy rfl rfl rfl (rp_gtrF rfl rfl rfl (by first | assumption | omega | (dsimp only; omega))) ?_) | (refine AL.rpy rfl rfl rfl (rp_gtr rfl rfl rfl) ?_))
        refine AL.rp rfl rfl (rp_pick rfl rfl rfl) ?_
        refine AL.nil ?_
        try simp only [thenS, S.put, S.newObj, setL, V.cs, List.length_cons, List.length_nil, List.take_succ_cons, List.take_zero, List.drop_succ_cons, List.drop_zero, List.drop_nil, List.nil_append, List.cons_append, List.append_nil, Nat.zero_add, Nat.reduceAdd, List.map_cons, List.map_nil, List.set_cons_zero, List.set_cons_succ]
        refine AW.condT rfl ?_
        refine AW.seq ?_
        refine AW.region ?_
        refine AL.rp rfl rfl (rp_assign rfl rfl) ?_
        refine AL.nil ?_
        try simp only [thenS, S.put]
        refine AW.ret ?_
        exact ⟨[_], ⟨rfl, trivial⟩, rfl, by simp [tupOf, V.pure, V.has]⟩
       ·obtain ⟨ps, pw, po⟩ := p
        simp only at hla hmk hl
        refine AW.seq ?_
        refine AW.seq ?_
        refine AW.region ?_
        refine AL.rp rfl rfl (rp_move rfl rfl) ?_
        (first | (refine AL.rp rfl rfl (rp_field_ref Try.underlying27 rfl rfl rfl inf25 (by decide) rfl) ?_) | (refine AL.rp rfl rfl (rp_field_ad Try.underlying27 rfl rfl rfl inf25 (by decide) rfl) ?_))
        (first | (refine AL.rd rfl rfl (rd_load_ref Try.underlying25 rfl rfl rfl rfl rfl rfl) ?_) | (refine AL.rd rfl rfl (rd_load_ad Try.underlying25 rfl rfl rfl rfl) ?_) | (refine AL.rd rfl rfl (rd_load_map Try.underlying25 rfl rfl rfl rfl rfl rfl (by assumption)) ?_) | (refine AL.rd rfl rfl (rd_load_flat Try.underlying25 rfl rfl rfl rfl rfl rfl (fun _ => rfl) (by assumption) rfl) ?_))
        (first | (refine AL.rp rfl rfl (rp_len_map Try.underlying25 rfl rfl (by assumption)) ?_) | (refine AL.rp rfl rfl (rp_len_own Try.underlying25 rfl rfl) ?_) | (refine AL.rp rfl rfl (rp_len_sl Try.underlying25 rfl rfl) ?_) | (refine AL.rp rfl rfl (rp_len_nil Try.underlying25 rfl rfl) ?_) | (refine AL.rp rfl rfl (rp_len_str Try.underlying25 rfl rfl) ?_))
        (first | (refine AL.rp rfl rfl (rp_lssT rfl rfl rfl (by first | assumption | omega | (dsimp only; omega))) ?_) | (refine AL.rp rfl rfl (rp_lssF rfl rfl rfl (by first | assumption | omega | (dsimp only; omega))) ?_) | (refine AL.rp rfl rfl (rp_lss rfl rfl rfl) ?_))
        refine AL.nil ?_
        try simp only [thenS, S.put]
        refine AW.condT rfl ?_
        refine AW.skip ?_
        try simp only [thenS]
        refine AW.seq ?_
        refine AW.block ?_
        refine AW.seq ?_
        refine AW.region ?_
        (first | (refine AL.rp rfl rfl (rp_field_ref Try.underlying27 rfl rfl rfl inf25 (by decide) rfl) ?_) | (refine AL.rp rfl rfl (rp_field_ad Try.underlying27 rfl rfl rfl inf25 (by decide) rfl) ?_))
        (first | (refine AL.rd rfl rfl (rd_load_ref Try.underlying25 rfl rfl rfl rfl rfl rfl) ?_) | (refine AL.rd rfl rfl (rd_load_ad Try.underlying25 rfl rfl rfl rfl) ?_) | (refine AL.rd rfl rfl (rd_load_map Try.underlying25 rfl rfl rfl rfl rfl rfl (by assumption)) ?_) | (refine AL.rd rfl rfl (rd_load_flat Try.underlying25 rfl rfl rfl rfl rfl rfl (fun _ => rfl) (by assumption) rfl) ?_))
        refine AL.rp rfl rfl (rp_move rfl rfl) ?_
        (first | (refine AL.rp rfl rfl (rp_index_map Try.underlying25 inf65 rfl rfl rfl rfl (by assumption)) ?_) | (refine AL.rp rfl rfl (rp_index_own Try.underlying25 inf65 rfl rfl rfl rfl (by first | assumption | omega)) ?_) | (refine AL.rp rfl rfl (rd_index_sl Try.underlying25 inf65 rfl rfl rfl rfl (by assumption)) ?_) | (refine AL.rp rfl rfl (rp_index_own Try.underlying25 inf65 rfl rfl rfl (by omega) (by omega)) ?_))
        (first | (refine AL.rd rfl rfl (rd_loads_ref Try.underlying65 rfl inf65 rfl rfl rfl rfl rfl rfl) ?_) | (refine AL.rd rfl rfl (rd_loads_ad Try.underlying65 rfl inf65 rfl rfl rfl rfl) ?_))
        refine AL.sm rfl (sm_alloc (l := [.d (.p (.int .i64 0)), .d (.p (.int .i64 0)), .d (.p (.slice none 0 0))]) 6 inf65 rfl (by first | rfl | simp [S.clean, S.put, S.newObj, S.forget, V.has, V.hasL, junkIf, setL, V.cs, hasL_i, hasL_b, hasL_s, hasL_n, hasL_rep, hasL_flat, hasL_append, -List.map_set]) rfl rfl) ?_
        refine AL.st rfl (st_store_any inf65 rfl rfl rfl rfl rfl rfl rfl rfl (by first | decide | (simp; done) | (simp; omega)) rfl) ?_
        refine AL.nil ?_
        try simp only [thenS, S.put, S.newObj, setL, V.cs, List.length_cons, List.length_nil, List.take_succ_cons, List.take_zero, List.drop_succ_cons, List.drop_zero, List.drop_nil, List.nil_append, List.cons_append, List.append_nil, Nat.zero_add, Nat.reduceAdd, List.map_cons, List.map_nil, List.set_cons_zero, List.set_cons_succ]
        refine AW.seq ?_
        refine AW.seq ?_
        refine AW.draw [(0, true), (1, true), (2, true), (3, true), (4, true), (5, true), (6, false), (7, false), (8, false), (9, false), (10, false), (11, false), (12, true), (13, true), (14, true), (15, true), (16, false), (17, false), (18, false), (19, false), (20, false), (21, false), (22, false), (23, false)] (fun i => !([] : List Nat).contains i) 24 (by kernel_rfl) (by kernel_rfl) rfl (by kernel_rfl) ?_
        (first | (refine AD1.rp rfl rfl rfl (fun _ _ h => h) (rp_field_ref Try.underlying65 rfl rfl rfl inf3 (by decide) rfl) ?_) | (refine AD1.rp rfl rfl rfl (fun _ _ h => h) (rp_field_ad Try.underlying65 rfl rfl rfl inf3 (by decide) rfl) ?_))
        (first | (refine AD1.rd rfl rfl rfl (fun _ _ h => h) (rd_load_ref Try.underlying3 rfl rfl rfl rfl rfl rfl) ?_) | (refine AD1.rd rfl rfl rfl (fun _ _ h => h) (rd_load_ad Try.underlying3 rfl rfl rfl rfl) ?_) | (refine AD1.rd rfl rfl rfl (fun _ _ h => h) (rd_load_map Try.underlying3 rfl rfl rfl rfl rfl rfl (by assumption)) ?_) | (refine AD1.rd rfl rfl rfl (fun _ _ h => h) (rd_load_flat Try.underlying3 rfl rfl rfl rfl rfl rfl (fun _ => rfl) (by assumption) rfl) ?_))
        (first | (refine AD1.rp rfl rfl rfl (fun _ _ h => h) (rp_field_ref Try.underlying24 rfl rfl rfl inf22 (by decide) rfl) ?_) | (refine AD1.rp rfl rfl rfl (fun _ _ h => h) (rp_field_ad Try.underlying24 rfl rfl rfl inf22 (by decide) rfl) ?_))
        (first | (refine AD1.rd rfl rfl rfl (fun _ _ h => h) (rd_load_ref Try.underlying22 rfl rfl rfl rfl rfl rfl) ?_) | (refine AD1.rd rfl rfl rfl (fun _ _ h => h) (rd_load_ad Try.underlying22 rfl rfl rfl rfl) ?_) | (refine AD1.rd rfl rfl rfl (fun _ _ h => h) (rd_load_map Try.underlying22 rfl rfl rfl rfl rfl rfl (by assumption)) ?_) | (refine AD1.rd rfl rfl rfl (fun _ _ h => h) (rd_load_flat Try.underlying22 rfl rfl rfl rfl rfl rfl (fun _ => rfl) (by assumption) rfl) ?_))
        (first | (refine AD1.rp rfl rfl rfl (fun _ _ h => h) (rp_len_map Try.underlying22 rfl rfl (by assumption)) ?_) | (refine AD1.rp rfl rfl rfl (fun _ _ h => h) (rp_len_own Try.underlying22 rfl rfl) ?_) | (refine AD1.rp rfl rfl rfl (fun _ _ h => h) (rp_len_sl Try.underlying22 rfl rfl) ?_) | (refine AD1.rp rfl rfl rfl (fun _ _ h => h) (rp_len_nil Try.underlying22 rfl rfl) ?_) | (refine AD1.rp rfl rfl rfl (fun _ _ h => h) (rp_len_str Try.underlying22 rfl rfl) ?_))
        refine AD1.rp rfl rfl rfl (fun _ _ h => h) (rp_sub rfl rfl rfl (by first | omega | (dsimp only; omega))) ?_
        refine AD1.goo [3, 6] rfl ?_
        refine AO.call (post := ?pc95) rfl rfl (sk_call (args := [_, _, _]) ?hc95 ⟨Try.func58, rfl, rfl, rfl, rfl⟩ rfl rfl rfl rfl) ?_
        case hc95 => first | (refine Fn.decT (am_In _ _ _) ?_; first | omega | (dsimp only; omega)) | (refine Fn.decF (am_In _ _ _) ?_; first | omega | (dsimp only; omega)) | exact am_In _ _ _
        rintro _ rfl -
        try dsimp only
        refine AO.rp1 rfl rfl rfl (rp_not rfl rfl) ?_
        refine AO.rp1 rfl rfl rfl (rp_move rfl rfl) ?_
        (first | (refine AO.noV1 rfl rfl rfl rfl rfl ?_) | (refine AO.noU1 rfl rfl ⟨_, rfl, rfl⟩ rfl ?_) | (refine AO.rp1y rfl rfl rfl rfl (rp_move rfl rfl) ?_))
        (first | (refine AO.noV1 rfl rfl rfl rfl rfl ?_) | (refine AO.noU1 rfl rfl ⟨_, rfl, rfl⟩ rfl ?_) | (refine AO.rp1y rfl rfl rfl rfl (rp_gtrT rfl rfl rfl (by first | assumption | omega | (dsimp only; omega))) ?_) | (refine AO.rp1y rfl rfl rfl rfl (rp_gtrF rfl rfl rfl (by first | assumption | omega | (dsimp only; omega))) ?_) | (refine AO.rp1y rfl rfl rfl rfl (rp_gtr rfl rfl rfl) ?_))
        (first | (refine AO.noV1 rfl rfl rfl rfl rfl ?_) | (refine AO.noU1 rfl rfl ⟨_, rfl, rfl⟩ rfl ?_) | (refine AO.rp1y rfl rfl rfl rfl (rp_move rfl rfl) ?_))
        (first | (refine AO.noV rfl rfl rfl rfl rfl (fun _ _ h => h) ?_) | (refine AO.noU rfl rfl ⟨_, rfl, rfl⟩ rfl (fun _ _ h => h) ?_) | (refine AO.rpy rfl rfl rfl rfl (fun _ _ h => h) (rp_field_ref Try.underlying65 rfl rfl rfl inf3 (by decide) rfl) ?_) | (refine AO.rpy rfl rfl rfl rfl (fun _ _ h => h) (rp_field_ad Try.underlying65 rfl rfl rfl inf3 (by decide) rfl) ?_))
        (first | (refine AO.rd rfl rfl rfl (fun _ _ h => h) (ro_load Try.underlying3 rfl rfl rfl rfl rfl rfl) (by decide) ?_) | (refine AO.noV rfl rfl rfl rfl rfl (fun _ _ h => h) ?_) | (refine AO.noU rfl rfl ⟨_, rfl, rfl⟩ rfl (fun _ _ h => h) ?_) | (refine AO.rdy rfl rfl rfl rfl (fun _ _ h => h) (ro_load Try.underlying3 rfl rfl rfl rfl rfl rfl) (by decide) ?_))
        (first | (refine AO.noV rfl rfl rfl rfl rfl (fun _ _ h => h) ?_) | (refine AO.noU rfl rfl ⟨_, rfl, rfl⟩ rfl (fun _ _ h => h) ?_) | (refine AO.rpy rfl rfl rfl rfl (fun _ _ h => h) (rp_field_ref Try.underlying27 rfl rfl rfl inf25 (by decide) rfl) ?_) | (refine AO.rpy rfl rfl rfl rfl (fun _ _ h => h) (rp_field_ad Try.underlying27 rfl rfl rfl inf25 (by decide) rfl) ?_))
        (first | (refine AO.rd rfl rfl rfl (fun _ _ h => h) (ro_load Try.underlying25 rfl rfl rfl rfl rfl rfl) (by decide) ?_) | (refine AO.noV rfl rfl rfl rfl rfl (fun _ _ h => h) ?_) | (refine AO.noU rfl rfl ⟨_, rfl, rfl⟩ rfl (fun _ _ h => h) ?_) | (refine AO.rdy rfl rfl rfl rfl (fun _ _ h => h) (ro_load Try.underlying25 rfl rfl rfl rfl rfl rfl) (by decide) ?_))
        (first | (refine AO.noV1 rfl rfl rfl rfl rfl ?_) | (refine AO.noU1 rfl rfl ⟨_, rfl, rfl⟩ rfl ?_) | (refine AO.rp1y rfl rfl rfl rfl (rp_move rfl rfl) ?_))
        (first | (refine AO.noV1 rfl rfl rfl rfl rfl ?_) | (refine AO.noU1 rfl rfl ⟨_, rfl, rfl⟩ rfl ?_) | (refine AO.rp1y rfl rfl rfl rfl (rp_sub rfl rfl rfl (by first | omega | (dsimp only; omega))) ?_))
        (first | (refine AO.noV1 rfl rfl rfl rfl rfl ?_) | (refine AO.noU1 rfl rfl ⟨_, rfl, rfl⟩ rfl ?_) | (refine AO.rp1y rfl rfl rfl rfl (rp_index_own (k := j0) Try.underlying25 inf65 rfl rfl rfl (by omega) (by omega)) ?_) | (refine AO.rp1y rfl rfl rfl rfl (rp_index_map (k := j0) Try.underlying25 inf65 rfl rfl rfl (by omega) (by assumption)) ?_))
        (first | (refine AO.noV1 rfl rfl rfl rfl rfl ?_) | (refine AO.noU1 rfl rfl ⟨_, rfl, rfl⟩ rfl ?_) | (refine AO.rp1y rfl rfl rfl rfl (rp_field_ref Try.underlying65 rfl rfl rfl inf3 (by decide) rfl) ?_) | (refine AO.rp1y rfl rfl rfl rfl (rp_field_ad Try.underlying65 rfl rfl rfl inf3 (by decide) rfl) ?_))
        (first | (refine AO.noV1 rfl rfl rfl rfl rfl ?_) | (refine AO.noU1 rfl rfl ⟨_, rfl, rfl⟩ rfl ?_) | (refine AO.rd1y rfl rfl rfl rfl (rd_load_ref Try.underlying3 rfl rfl rfl rfl rfl rfl) ?_) | (refine AO.rd1y rfl rfl rfl rfl (rd_load_ad Try.underlying3 rfl rfl rfl rfl) ?_) | (refine AO.rd1y rfl rfl rfl rfl (rd_load_map Try.underlying3 rfl rfl rfl rfl rfl rfl (by assumption)) ?_) | (refine AO.rd1y rfl rfl rfl rfl (rd_load_flat Try.underlying3 rfl rfl rfl rfl rfl rfl (fun _ => rfl) (by assumption) rfl) ?_))
        (first | (refine AO.noV1 rfl rfl rfl rfl rfl ?_) | (refine AO.noU1 rfl rfl ⟨_, rfl, rfl⟩ rfl ?_) | (refine AO.rp1y rfl rfl rfl rfl (rp_leqT rfl rfl rfl (by first | assumption | omega | (dsimp only; omega))) ?_) | (refine AO.rp1y rfl rfl rfl rfl (rp_leqF rfl rfl rfl (by first | assumption | omega | (dsimp only; omega))) ?_) | (refine AO.rp1y rfl rfl rfl rfl (rp_leq rfl rfl rfl) ?_))
        (first | (refine AO.noV1 rfl rfl rfl rfl rfl ?_) | (refine AO.noU1 rfl rfl ⟨_, rfl, rfl⟩ rfl ?_) | (refine AO.rp1y rfl rfl rfl rfl (rp_pick rfl rfl rfl) ?_))
        refine AO.rp1 rfl rfl rfl (rp_pick rfl rfl rfl) ?_
        refine AO.nil ?_
        try simp only [thenS, S.put]
        refine AW.condF rfl ?_
        refine AW.skip ?_
        try simp only [thenS]
        refine AW.seq ?_
        refine AW.seq ?_
        refine AW.region ?_
        (first | (refine AL.rp rfl rfl (rp_field_ref Try.underlying65 rfl rfl rfl inf3 (by decide) rfl) ?_) | (refine AL.rp rfl rfl (rp_field_ad Try.underlying65 rfl rfl rfl inf3 (by decide) rfl) ?_))
        (first | (refine AL.rd rfl rfl (rd_load_ref Try.underlying3 rfl rfl rfl rfl rfl rfl) ?_) | (refine AL.rd rfl rfl (rd_load_ad Try.underlying3 rfl rfl rfl rfl) ?_) | (refine AL.rd rfl rfl (rd_load_map Try.underlying3 rfl rfl rfl rfl rfl rfl (by assumption)) ?_) | (refine AL.rd rfl rfl (rd_load_flat Try.underlying3 rfl rfl rfl rfl rfl rfl (fun _ => rfl) (by assumption) rfl) ?_))
        refine AL.call (post := ?pc96) rfl (sm_call (args := [_, _, _]) ?hc96 ⟨Try.func58, rfl, rfl, rfl, rfl⟩ rfl rfl rfl rfl) ?_
        case hc96 => first | (refine Fn.decT (am_In _ _ _) ?_; first | omega | (dsimp only; omega)) | (refine Fn.decF (am_In _ _ _) ?_; first | omega | (dsimp only; omega)) | exact am_In _ _ _
        rintro _ rfl -
        try dsimp only
        refine AL.rp rfl rfl (rp_not rfl rfl) ?_
        refine AL.rp rfl rfl (rp_move rfl rfl) ?_
        (first | (refine AL.noV rfl rfl rfl rfl ?_) | (refine AL.noU rfl ⟨_, rfl, rfl⟩ rfl ?_) | (refine AL.rpy rfl rfl rfl (rp_field_ref Try.underlying65 rfl rfl rfl inf29 (by decide) rfl) ?_) | (refine AL.rpy rfl rfl rfl (rp_field_ad Try.underlying65 rfl rfl rfl inf29 (by decide) rfl) ?_))
        (first | (refine AL.noV rfl rfl rfl rfl ?_) | (refine AL.noU rfl ⟨_, rfl, rfl⟩ rfl ?_) | (refine AL.rdy rfl rfl rfl (rd_load_ref Try.underlying29 rfl rfl rfl rfl rfl rfl) ?_) | (refine AL.rdy rfl rfl rfl (rd_load_ad Try.underlying29 rfl rfl rfl rfl) ?_) | (refine AL.rdy rfl rfl rfl (rd_load_map Try.underlying29 rfl rfl rfl rfl rfl rfl (by assumption)) ?_) | (refine AL.rdy rfl rfl rfl (rd_load_flat Try.underlying29 rfl rfl rfl rfl rfl rfl (fun _ => rfl) (by assumption) rfl) ?_))
        (first | (refine AL.noV rfl rfl rfl rfl ?_) | (refine AL.noU rfl ⟨_, rfl, rfl⟩ rfl ?_) | (refine AL.rpy rfl rfl rfl (rp_len_map Try.underlying29 rfl rfl (by assumption)) ?_) | (refine AL.rpy rfl rfl rfl (rp_len_own Try.underlying29 rfl rfl) ?_) | (refine AL.rpy rfl rfl rfl (rp_len_sl Try.underlying29 rfl rfl) ?_) | (refine AL.rpy rfl rfl rfl (rp_len_nil Try.underlying29 rfl rfl) ?_) | (refine AL.rpy rfl rfl rfl (rp_len_str Try.underlying29 rfl rfl) ?_))
        (first | (refine AL.noV rfl rfl rfl rfl ?_) | (refine AL.noU rfl ⟨_, rfl, rfl⟩ rfl ?_) | (refine AL.rpy rfl rfl rfl (rp_gtrT rfl rfl rfl (by first | assumption | omega | (dsimp only; omega))) ?_) | (refine AL.rpy rfl rfl rfl (rp_gtrF rfl rfl rfl (by first | assumption | omega | (dsimp only; omega))) ?_) | (refine AL.rpy rfl rfl rfl (rp_gtr rfl rfl rfl) ?_))
        refine AL.rp rfl rfl (rp_pick rfl rfl rfl) ?_
        refine AL.nil ?_
        try simp only [thenS, S.put, S.newObj, setL, V.cs, List.length_cons, List.length_nil, List.take_succ_cons, List.take_zero, List.drop_succ_cons, List.drop_zero, List.drop_nil, List.nil_append, List.cons_append, List.append_nil, Nat.zero_add, Nat.reduceAdd, List.map_cons, List.map_nil, List.set_cons_zero, List.set_cons_succ]
        refine AW.condT rfl ?_
        refine AW.seq ?_
        refine AW.region ?_
        refine AL.rp rfl rfl (rp_assign rfl rfl) ?_
        refine AL.nil ?_
        try simp only [thenS, S.put]
        refine AW.ret ?_
        exact ⟨[_], ⟨rfl, trivial⟩, rfl, by simp [tupOf, V.pure, V.has]⟩
      ·clear hok
       rcases hbe with ⟨hk0, rfl⟩ | ⟨j0, p, hk0, hp, rfl⟩
       ·skip
        refine AW.seq ?_
        refine AW.seq ?_
        refine AW.region ?_
        refine AL.rp rfl rfl (rp_move rfl rfl) ?_
        (first | (refine AL.rp rfl rfl (rp_field_ref Try.underlying27 rfl rfl rfl inf25 (by decide) rfl) ?_) | (refine AL.rp rfl rfl (rp_field_ad Try.underlying27 rfl rfl rfl inf25 (by decide) rfl) ?_))
        (first | (refine AL.rd rfl rfl (rd_load_ref Try.underlying25 rfl rfl rfl rfl rfl rfl) ?_) | (refine AL.rd rfl rfl (rd_load_ad Try.underlying25 rfl rfl rfl rfl) ?_) | (refine AL.rd rfl rfl (rd_load_map Try.underlying25 rfl rfl rfl rfl rfl rfl (by assumption)) ?_) | (refine AL.rd rfl rfl (rd_load_flat Try.underlying25 rfl rfl rfl rfl rfl rfl (fun _ => rfl) (by assumption) rfl) ?_))
        (first | (refine AL.rp rfl rfl (rp_len_map Try.underlying25 rfl rfl (by assumption)) ?_) | (refine AL.rp rfl rfl (rp_len_own Try.underlying25 rfl rfl) ?_) | (refine AL.rp rfl rfl (rp_len_sl Try.underlying25 rfl rfl) ?_) | (refine AL.rp rfl rfl (rp_len_nil Try.underlying25 rfl rfl) ?_) | (refine AL.rp rfl rfl (rp_len_str Try.underlying25 rfl rfl) ?_))
        (first | (refine AL.rp rfl rfl (rp_lssT rfl rfl rfl (by first | assumption | omega | (dsimp only; omega))) ?_) | (refine AL.rp rfl rfl (rp_lssF rfl rfl rfl (by first | assumption | omega | (dsimp only; omega))) ?_) | (refine AL.rp rfl rfl (rp_lss rfl rfl rfl) ?_))
        refine AL.nil ?_
        try simp only [thenS, S.put]
        refine AW.condT rfl ?_
        refine AW.skip ?_
        try simp only [thenS]
        refine AW.seq ?_
        refine AW.block ?_
        refine AW.seq ?_
        refine AW.region ?_
        (first | (refine AL.rp rfl rfl (rp_field_ref Try.underlying27 rfl rfl rfl inf25 (by decide) rfl) ?_) | (refine AL.rp rfl rfl (rp_field_ad Try.underlying27 rfl rfl rfl inf25 (by decide) rfl) ?_))
        (first | (refine AL.rd rfl rfl (rd_load_ref Try.underlying25 rfl rfl rfl rfl rfl rfl) ?_) | (refine AL.rd rfl rfl (rd_load_ad Try.underlying25 rfl rfl rfl rfl) ?_) | (refine AL.rd rfl rfl (rd_load_map Try.underlying25 rfl rfl rfl rfl rfl rfl (by assumption)) ?_) | (refine AL.rd rfl rfl (rd_load_flat Try.underlying25 rfl rfl rfl rfl rfl rfl (fun _ => rfl) (by assumption) rfl) ?_))
        refine AL.rp rfl rfl (rp_move rfl rfl) ?_
        (first | (refine AL.rp rfl rfl (rp_index_map Try.underlying25 inf65 rfl rfl rfl rfl (by assumption)) ?_) | (refine AL.rp rfl rfl (rp_index_own Try.underlying25 inf65 rfl rfl rfl rfl (by first | assumption | omega)) ?_) | (refine AL.rp rfl rfl (rd_index_sl Try.underlying25 inf65 rfl rfl rfl rfl (by assumption)) ?_) | (refine AL.rp rfl rfl (rp_index_own Try.underlying25 inf65 rfl rfl rfl (by omega) (by omega)) ?_))
        (first | (refine AL.rd rfl rfl (rd_loads_ref Try.underlying65 rfl inf65 rfl rfl rfl rfl rfl rfl) ?_) | (refine AL.rd rfl rfl (rd_loads_ad Try.underlying65 rfl inf65 rfl rfl rfl rfl) ?_))
        refine AL.sm rfl (sm_alloc (l := [.d (.p (.int .i64 0)), .d (.p (.int .i64 0)), .d (.p (.slice none 0 0))]) 6 inf65 rfl (by first | rfl | simp [S.clean, S.put, S.newObj, S.forget, V.has, V.hasL, junkIf, setL, V.cs, hasL_i, hasL_b, hasL_s, hasL_n, hasL_rep, hasL_flat, hasL_append, -List.map_set]) rfl rfl) ?_
        refine AL.st rfl (st_store_any inf65 rfl rfl rfl rfl rfl rfl rfl rfl (by first | decide | (simp; done) | (simp; omega)) rfl) ?_
        refine AL.nil ?_
        try simp only [thenS, S.put, S.newObj, setL, V.cs, List.length_cons, List.length_nil, List.take_succ_cons, List.take_zero, List.drop_succ_cons, List.drop_zero, List.drop_nil, List.nil_append, List.cons_append, List.append_nil, Nat.zero_add, Nat.reduceAdd, List.map_cons, List.map_nil, List.set_cons_zero, List.set_cons_succ]
        refine AW.seq ?_
        refine AW.seq ?_
        refine AW.draw [(0, true), (1, true), (2, true), (3, true), (4, true), (5, true), (6, false), (7, false), (8, false), (9, false), (10, false), (11, false), (12, true), (13, true), (14, true), (15, true), (16, false), (17, false), (18, false), (19, false), (20, false), (21, false), (22, false), (23, false)] (fun i => !([] : List Nat).contains i) 24 (by kernel_rfl) (by kernel_rfl) rfl (by kernel_rfl) ?_
        (first | (refine AD1.rp rfl rfl rfl (fun _ _ h => h) (rp_field_ref Try.underlying65 rfl rfl rfl inf3 (by decide) rfl) ?_) | (refine AD1.rp rfl rfl rfl (fun _ _ h => h) (rp_field_ad Try.underlying65 rfl rfl rfl inf3 (by decide) rfl) ?_))
        (first | (refine AD1.rd rfl rfl rfl (fun _ _ h => h) (rd_load_ref Try.underlying3 rfl rfl rfl rfl rfl rfl) ?_) | (refine AD1.rd rfl rfl rfl (fun _ _ h => h) (rd_load_ad Try.underlying3 rfl rfl rfl rfl) ?_) | (refine AD1.rd rfl rfl rfl (fun _ _ h => h) (rd_load_map Try.underlying3 rfl rfl rfl rfl rfl rfl (by assumption)) ?_) | (refine AD1.rd rfl rfl rfl (fun _ _ h => h) (rd_load_flat Try.underlying3 rfl rfl rfl rfl rfl rfl (fun _ => rfl) (by assumption) rfl) ?_))
        (first | (refine AD1.rp rfl rfl rfl (fun _ _ h => h) (rp_field_ref Try.underlying24 rfl rfl rfl inf22 (by decide) rfl) ?_) | (refine AD1.rp rfl rfl rfl (fun _ _ h => h) (rp_field_ad Try.underlying24 rfl rfl rfl inf22 (by decide) rfl) ?_))
        (first | (refine AD1.rd rfl rfl rfl (fun _ _ h => h) (rd_load_ref Try.underlying22 rfl rfl rfl rfl rfl rfl) ?_) | (refine AD1.rd rfl rfl rfl (fun _ _ h => h) (rd_load_ad Try.underlying22 rfl rfl rfl rfl) ?_) | (refine AD1.rd rfl rfl rfl (fun _ _ h => h) (rd_load_map Try.underlying22 rfl rfl rfl rfl rfl rfl (by assumption)) ?_) | (refine AD1.rd rfl rfl rfl (fun _ _ h => h) (rd_load_flat Try.underlying22 rfl rfl rfl rfl rfl rfl (fun _ => rfl) (by assumption) rfl) ?_))
        (first | (refine AD1.rp rfl rfl rfl (fun _ _ h => h) (rp_len_map Try.underlying22 rfl rfl (by assumption)) ?_) | (refine AD1.rp rfl rfl rfl (fun _ _ h => h) (rp_len_own Try.underlying22 rfl rfl) ?_) | (refine AD1.rp rfl rfl rfl (fun _ _ h => h) (rp_len_sl Try.underlying22 rfl rfl) ?_) | (refine AD1.rp rfl rfl rfl (fun _ _ h => h) (rp_len_nil Try.underlying22 rfl rfl) ?_) | (refine AD1.rp rfl rfl rfl (fun _ _ h => h) (rp_len_str Try.underlying22 rfl rfl) ?_))
        refine AD1.rp rfl rfl rfl (fun _ _ h => h) (rp_sub rfl rfl rfl (by first | omega | (dsimp only; omega))) ?_
        refine AD1.goo [3, 6] rfl ?_
        refine AO.call (post := ?pc97) rfl rfl (sk_call (args := [_, _, _]) ?hc97 ⟨Try.func58, rfl, rfl, rfl, rfl⟩ rfl rfl rfl rfl) ?_
        case hc97 => first | (refine Fn.decT (am_In _ _ _) ?_; first | omega | (dsimp only; omega)) | (refine Fn.decF (am_In _ _ _) ?_; first | omega | (dsimp only; omega)) | exact am_In _ _ _
        rintro _ rfl -
        try dsimp only
        refine AO.rp1 rfl rfl rfl (rp_not rfl rfl) ?_
        refine AO.rp1 rfl rfl rfl (rp_move rfl rfl) ?_
        (first | (refine AO.noV1 rfl rfl rfl rfl rfl ?_) | (refine AO.noU1 rfl rfl ⟨_, rfl, rfl⟩ rfl ?_) | (refine AO.rp1y rfl rfl rfl rfl (rp_move rfl rfl) ?_))
        (first | (refine AO.noV1 rfl rfl rfl rfl rfl ?_) | (refine AO.noU1 rfl rfl ⟨_, rfl, rfl⟩ rfl ?_) | (refine AO.rp1y rfl rfl rfl rfl (rp_gtrT rfl rfl rfl (by first | assumption | omega | (dsimp only; omega))) ?_) | (refine AO.rp1y rfl rfl rfl rfl (rp_gtrF rfl rfl rfl (by first | assumption | omega | (dsimp only; omega))) ?_) | (refine AO.rp1y rfl rfl rfl rfl (rp_gtr rfl rfl rfl) ?_))
        (first | (refine AO.noV1 rfl rfl rfl rfl rfl ?_) | (refine AO.noU1 rfl rfl ⟨_, rfl, rfl⟩ rfl ?_) | (refine AO.rp1y rfl rfl rfl rfl (rp_move rfl rfl) ?_))
        (first | (refine AO.noV rfl rfl rfl rfl rfl (fun _ _ h => h) ?_) | (refine AO.noU rfl rfl ⟨_, rfl, rfl⟩ rfl (fun _ _ h => h) ?_) | (refine AO.rpy rfl rfl rfl rfl (fun _ _ h => h) (rp_field_ref Try.underlying65 rfl rfl rfl inf3 (by decide) rfl) ?_) | (refine AO.rpy rfl rfl rfl rfl (fun _ _ h => h) (rp_field_ad Try.underlying65 rfl rfl rfl inf3 (by decide) rfl) ?_))
        (first | (refine AO.rd rfl rfl rfl (fun _ _ h => h) (ro_load Try.underlying3 rfl rfl rfl rfl rfl rfl) (by decide) ?_) | (refine AO.noV rfl rfl rfl rfl rfl (fun _ _ h => h) ?_) | (refine AO.noU rfl rfl ⟨_, rfl, rfl⟩ rfl (fun _ _ h => h) ?_) | (refine AO.rdy rfl rfl rfl rfl (fun _ _ h => h) (ro_load Try.underlying3 rfl rfl rfl rfl rfl rfl) (by decide) ?_))
        (first | (refine AO.noV rfl rfl rfl rfl rfl (fun _ _ h => h) ?_) | (refine AO.noU rfl rfl ⟨_, rfl, rfl⟩ rfl (fun _ _ h => h) ?_) | (refine AO.rpy rfl rfl rfl rfl (fun _ _ h => h) (rp_field_ref Try.underlying27 rfl rfl rfl inf25 (by decide) rfl) ?_) | (refine AO.rpy rfl rfl rfl rfl (fun _ _ h => h) (rp_field_ad Try.underlying27 rfl rfl rfl inf25 (by decide) rfl) ?_))
        (first | (refine AO.rd rfl rfl rfl (fun _ _ h => h) (ro_load Try.underlying25 rfl rfl rfl rfl rfl rfl) (by decide) ?_) | (refine AO.noV rfl rfl rfl rfl rfl (fun _ _ h => h) ?_) | (refine AO.noU rfl rfl ⟨_, rfl, rfl⟩ rfl (fun _ _ h => h) ?_) | (refine AO.rdy rfl rfl rfl rfl (fun _ _ h => h) (ro_load Try.underlying25 rfl rfl rfl rfl rfl rfl) (by decide) ?_))
        (first | (refine AO.noV1 rfl rfl rfl rfl rfl ?_) | (refine AO.noU1 rfl rfl ⟨_, rfl, rfl⟩ rfl ?_) | (refine AO.rp1y rfl rfl rfl rfl (rp_move rfl rfl) ?_))
        (first | (refine AO.noV1 rfl rfl rfl rfl rfl ?_) | (refine AO.noU1 rfl rfl ⟨_, rfl, rfl⟩ rfl ?_) | (refine AO.rp1y rfl rfl rfl rfl (rp_sub rfl rfl rfl (by first | omega | (dsimp only; omega))) ?_))
        (first | (refine AO.noV1 rfl rfl rfl rfl rfl ?_) | (refine AO.noU1 rfl rfl ⟨_, rfl, rfl⟩ rfl ?_) | (refine AO.rp1y rfl rfl rfl rfl (rp_index_own (k := j0) Try.underlying25 inf65 rfl rfl rfl (by omega) (by omega)) ?_) | (refine AO.rp1y rfl rfl rfl rfl (rp_index_map (k := j0) Try.underlying25 inf65 rfl rfl rfl (by omega) (by assumption)) ?_))
        (first | (refine AO.noV1 rfl rfl rfl rfl rfl ?_) | (refine AO.noU1 rfl rfl ⟨_, rfl, rfl⟩ rfl ?_) | (refine AO.rp1y rfl rfl rfl rfl (rp_field_ref Try.underlying65 rfl rfl rfl inf3 (by decide) rfl) ?_) | (refine AO.rp1y rfl rfl rfl rfl (rp_field_ad Try.underlying65 rfl rfl rfl inf3 (by decide) rfl) ?_))
        (first | (refine AO.noV1 rfl rfl rfl rfl rfl ?_) | (refine AO.noU1 rfl rfl ⟨_, rfl, rfl⟩ rfl ?_) | (refine AO.rd1y rfl rfl rfl rfl (rd_load_ref Try.underlying3 rfl rfl rfl rfl rfl rfl) ?_) | (refine AO.rd1y rfl rfl rfl rfl (rd_load_ad Try.underlying3 rfl rfl rfl rfl) ?_) | (refine AO.rd1y rfl rfl rfl rfl (rd_load_map Try.underlying3 rfl rfl rfl rfl rfl rfl (by assumption)) ?_) | (refine AO.rd1y rfl rfl rfl rfl (rd_load_flat Try.underlying3 rfl rfl rfl rfl rfl rfl (fun _ => rfl) (by assumption) rfl) ?_))
        (first | (refine AO.noV1 rfl rfl rfl rfl rfl ?_) | (refine AO.noU1 rfl rfl ⟨_, rfl, rfl⟩ rfl ?_) | (refine AO.rp1y rfl rfl rfl rfl (rp_leqT rfl rfl rfl (by first | assumption | omega | (dsimp only; omega))) ?_) | (refine AO.rp1y rfl rfl rfl rfl (rp_leqF rfl rfl rfl (by first | assumption | omega | (dsimp only; omega))) ?_) | (refine AO.rp1y rfl rfl rfl rfl (rp_leq rfl rfl rfl) ?_))
        (first | (refine AO.noV1 rfl rfl rfl rfl rfl ?_) | (refine AO.noU1 rfl rfl ⟨_, rfl, rfl⟩ rfl ?_) | (refine AO.rp1y rfl rfl rfl rfl (rp_pick rfl rfl rfl) ?_))
        refine AO.rp1 rfl rfl rfl (rp_pick rfl rfl rfl) ?_
        refine AO.nil ?_
        try simp only [thenS, S.put]
        refine AW.condF rfl ?_
        refine AW.skip ?_
        try simp only [thenS]
        refine AW.seq ?_
        refine AW.seq ?_
        refine AW.region ?_
        (first | (refine AL.rp rfl rfl (rp_field_ref Try.underlying65 rfl rfl rfl inf3 (by decide) rfl) ?_) | (refine AL.rp rfl rfl (rp_field_ad Try.underlying65 rfl rfl rfl inf3 (by decide) rfl) ?_))
        (first | (refine AL.rd rfl rfl (rd_load_ref Try.underlying3 rfl rfl rfl rfl rfl rfl) ?_) | (refine AL.rd rfl rfl (rd_load_ad Try.underlying3 rfl rfl rfl rfl) ?_) | (refine AL.rd rfl rfl (rd_load_map Try.underlying3 rfl rfl rfl rfl rfl rfl (by assumption)) ?_) | (refine AL.rd rfl rfl (rd_load_flat Try.underlying3 rfl rfl rfl rfl rfl rfl (fun _ => rfl) (by assumption) rfl) ?_))
        refine AL.call (post := ?pc98) rfl (sm_call (args := [_, _, _]) ?hc98 ⟨Try.func58, rfl, rfl, rfl, rfl⟩ rfl rfl rfl rfl) ?_
        case hc98 => first | (refine Fn.decT (am_In _ _ _) ?_; first | omega | (dsimp only; omega)) | (refine Fn.decF (am_In _ _ _) ?_; first | omega | (dsimp only; omega)) | exact am_In _ _ _
        rintro _ rfl -
        try dsimp only
        refine AL.rp rfl rfl (rp_not rfl rfl) ?_
        refine AL.rp rfl rfl (rp_move rfl rfl) ?_
        (first | (refine AL.noV rfl rfl rfl rfl ?_) | (refine AL.noU rfl ⟨_, rfl, rfl⟩ rfl ?_) | (refine AL.rpy rfl rfl rfl (rp_field_ref Try.underlying65 rfl rfl rfl inf29 (by decide) rfl) ?_) | (refine AL.rpy rfl rfl rfl (rp_field_ad Try.underlying65 rfl rfl rfl inf29 (by decide) rfl) ?_))
        (first | (refine AL.noV rfl rfl rfl rfl ?_) | (refine AL.noU rfl ⟨_, rfl, rfl⟩ rfl ?_) | (refine AL.rdy rfl rfl rfl (rd_load_ref Try.underlying29 rfl rfl rfl rfl rfl rfl) ?_) | (refine AL.rdy rfl rfl rfl (rd_load_ad Try.underlying29 rfl rfl rfl rfl) ?_) | (refine AL.rdy rfl rfl rfl (rd_load_map Try.underlying29 rfl rfl rfl rfl rfl rfl (by assumption)) ?_) | (refine AL.rdy rfl rfl rfl (rd_load_flat Try.underlying29 rfl rfl rfl rfl rfl rfl (fun _ => rfl) (by assumption) rfl) ?_))
        (first | (refine AL.noV rfl rfl rfl rfl ?_) | (refine AL.noU rfl ⟨_, rfl, rfl⟩ rfl ?_) | (refine AL.rpy rfl rfl rfl (rp_len_map Try.underlying29 rfl rfl (by assumption)) ?_) | (refine AL.rpy rfl rfl rfl (rp_len_own Try.underlying29 rfl rfl) ?_) | (refine AL.rpy rfl rfl rfl (rp_len_sl Try.underlying29 rfl rfl) ?_) | (refine AL.rpy rfl rfl rfl (rp_len_nil Try.underlying29 rfl rfl) ?_) | (refine AL.rpy rfl rfl rfl (rp_len_str Try.underlying29 rfl rfl) ?_))
        (first | (refine AL.noV rfl rfl rfl rfl ?_) | (refine AL.noU rfl ⟨_, rfl, rfl⟩ rfl ?_) | (refine AL.rpy rfl rfl rfl (rp_gtrT rfl rfl rfl (by first | assumption | omega | (dsimp only; omega))) ?_) | (refine AL.rpy rfl rfl rfl (rp_gtrF rfl rfl rfl (by first | assumption | omega | (dsimp only; omega))) ?_) | (refine AL.rpy rfl rfl rfl (rp_gtr rfl rfl rfl) ?_))
        refine AL.rp rfl rfl (rp_pick rfl rfl rfl) ?_
        refine AL.nil ?_
        try simp only [thenS, S.put, S.newObj, setL, V.cs, List.length_cons, List.length_nil, List.take_succ_cons, List.take_zero, List.drop_succ_cons, List.drop_zero, List.drop_nil, List.nil_append, List.cons_append, List.append_nil, Nat.zero_add, Nat.reduceAdd, List.map_cons, List.map_nil, List.set_cons_zero, List.set_cons_succ]
        refine AW.condT rfl ?_
        refine AW.seq ?_
        refine AW.region ?_
        refine AL.rp rfl rfl (rp_assign rfl rfl) ?_
        refine AL.nil ?_
        try simp only [thenS, S.put]
        refine AW.ret ?_
        exact ⟨[_], ⟨rfl, trivial⟩, rfl, by simp [tupOf, V.pure, V.has]⟩
       ·obtain ⟨ps, pw, po⟩ := p
        simp only at hla hmk hl
        refine AW.seq ?_
        refine AW.seq ?_
        refine AW.region ?_
        refine AL.rp rfl rfl (rp_move rfl rfl) ?_
        (first | (refine AL.rp rfl rfl (rp_field_ref Try.underlying27 rfl rfl rfl inf25 (by decide) rfl) ?_) | (refine AL.rp rfl rfl (rp_field_ad Try.underlying27 rfl rfl rfl inf25 (by decide) rfl) ?_))
        (first | (refine AL.rd rfl rfl (rd_load_ref Try.underlying25 rfl rfl rfl rfl rfl rfl) ?_) | (refine AL.rd rfl rfl (rd_load_ad Try.underlying25 rfl rfl rfl rfl) ?_) | (refine AL.rd rfl rfl (rd_load_map Try.underlying25 rfl rfl rfl rfl rfl rfl (by assumption)) ?_) | (refine AL.rd rfl rfl (rd_load_flat Try.underlying25 rfl rfl rfl rfl rfl rfl (fun _ => rfl) (by assumption) rfl) ?_))
        (first | (refine AL.rp rfl rfl (rp_len_map Try.underlying25 rfl rfl (by assumption)) ?_) | (refine AL.rp rfl rfl (rp_len_own Try.underlying25 rfl rfl) ?_) | (refine AL.rp rfl rfl (rp_len_sl Try.underlying25 rfl rfl) ?_) | (refine AL.rp rfl rfl (rp_len_nil Try.underlying25 rfl rfl) ?_) | (refine AL.rp rfl rfl (rp_len_str Try.underlying25 rfl rfl) ?_))
        (first | (refine AL.rp rfl rfl (rp_lssT rfl rfl rfl (by first | assumption | omega | (dsimp only; omega))) ?_) | (refine AL.rp rfl rfl (rp_lssF rfl rfl rfl (by first | assumption | omega | (dsimp only; omega))) ?_) | (refine AL.rp rfl rfl (rp_lss rfl rfl rfl) ?_))
        refine AL.nil ?_
        try simp only [thenS, S.put]
        refine AW.condT rfl ?_
        refine AW.skip ?_
        try simp only [thenS]
        refine AW.seq ?_
        refine AW.block ?_
        refine AW.seq ?_
        refine AW.region ?_
        (first | (refine AL.rp rfl rfl (rp_field_ref Try.underlying27 rfl rfl rfl inf25 (by decide) rfl) ?_) | (refine AL.rp rfl rfl (rp_field_ad Try.underlying27 rfl rfl rfl inf25 (by decide) rfl) ?_))
        (first | (refine AL.rd rfl rfl (rd_load_ref Try.underlying25 rfl rfl rfl rfl rfl rfl) ?_) | (refine AL.rd rfl rfl (rd_load_ad Try.underlying25 rfl rfl rfl rfl) ?_) | (refine AL.rd rfl rfl (rd_load_map Try.underlying25 rfl rfl rfl rfl rfl rfl (by assumption)) ?_) | (refine AL.rd rfl rfl (rd_load_flat Try.underlying25 rfl rfl rfl rfl rfl rfl (fun _ => rfl) (by assumption) rfl) ?_))
        refine AL.rp rfl rfl (rp_move rfl rfl) ?_
        (first | (refine AL.rp rfl rfl (rp_index_map Try.underlying25 inf65 rfl rfl rfl rfl (by assumption)) ?_) | (refine AL.rp rfl rfl (rp_index_own Try.underlying25 inf65 rfl rfl rfl rfl (by first | assumption | omega)) ?_) | (refine AL.rp rfl rfl (rd_index_sl Try.underlying25 inf65 rfl rfl rfl rfl (by assumption)) ?_) | (refine AL.rp rfl rfl (rp_index_own Try.underlying25 inf65 rfl rfl rfl (by omega) (by omega)) ?_))
        (first | (refine AL.rd rfl rfl (rd_loads_ref Try.underlying65 rfl inf65 rfl rfl rfl rfl rfl rfl) ?_) | (refine AL.rd rfl rfl (rd_loads_ad Try.underlying65 rfl inf65 rfl rfl rfl rfl) ?_))
        refine AL.sm rfl (sm_alloc (l := [.d (.p (.int .i64 0)), .d (.p (.int .i64 0)), .d (.p (.slice none 0 0))]) 6 inf65 rfl (by first | rfl | simp [S.clean, S.put, S.newObj, S.forget, V.has, V.hasL, junkIf, setL, V.cs, hasL_i, hasL_b, hasL_s, hasL_n, hasL_rep, hasL_flat, hasL_append, -List.map_set]) rfl rfl) ?_
        refine AL.st rfl (st_store_any inf65 rfl rfl rfl rfl rfl rfl rfl rfl (by first | decide | (simp; done) | (simp; omega)) rfl) ?_
        refine AL.nil ?_
        try simp only [thenS, S.put, S.newObj, setL, V.cs, List.length_cons, List.length_nil, List.take_succ_cons, List.take_zero, List.drop_succ_cons, List.drop_zero, List.drop_nil, List.nil_append, List.cons_append, List.append_nil, Nat.zero_add, Nat.reduceAdd, List.map_cons, List.map_nil, List.set_cons_zero, List.set_cons_succ]
        refine AW.seq ?_
        refine AW.seq ?_
        refine AW.draw [(0, true), (1, true), (2, true), (3, true), (4, true), (5, true), (6, false), (7, false), (8, false), (9, false), (10, false), (11, false), (12, true), (13, true), (14, true), (15, true), (16, false), (17, false), (18, false), (19, false), (20, false), (21, false), (22, false), (23, false)] (fun i => !([] : List Nat).contains i) 24 (by kernel_rfl) (by kernel_rfl) rfl (by kernel_rfl) ?_
        (first | (refine AD1.rp rfl rfl rfl (fun _ _ h => h) (rp_field_ref Try.underlying65 rfl rfl rfl inf3 (by decide) rfl) ?_) | (refine AD1.rp rfl rfl rfl (fun _ _ h => h) (rp_field_ad Try.underlying65 rfl rfl rfl inf3 (by decide) rfl) ?_))
        (first | (refine AD1.rd rfl rfl rfl (fun _ _ h => h) (rd_load_ref Try.underlying3 rfl rfl rfl rfl rfl rfl) ?_) | (refine AD1.rd rfl rfl rfl (fun _ _ h => h) (rd_load_ad Try.underlying3 rfl rfl rfl rfl) ?_) | (refine AD1.rd rfl rfl rfl (fun _ _ h => h) (rd_load_map Try.underlying3 rfl rfl rfl rfl rfl rfl (by assumption)) ?_) | (refine AD1.rd rfl rfl rfl (fun _ _ h => h) (rd_load_flat Try.underlying3 rfl rfl rfl rfl rfl rfl (fun _ => rfl) (by assumption) rfl) ?_))
        (first | (refine AD1.rp rfl rfl rfl (fun _ _ h => h) (rp_field_ref Try.underlying24 rfl rfl rfl inf22 (by decide) rfl) ?_) | (refine AD1.rp rfl rfl rfl (fun _ _ h => h) (rp_field_ad Try.underlying24 rfl rfl rfl inf22 (by decide) rfl) ?_))
        (first | (refine AD1.rd rfl rfl rfl (fun _ _ h => h) (rd_load_ref Try.underlying22 rfl rfl rfl rfl rfl rfl) ?_) | (refine AD1.rd rfl rfl rfl (fun _ _ h => h) (rd_load_ad Try.underlying22 rfl rfl rfl rfl) ?_) | (refine AD1.rd rfl rfl rfl (fun _ _ h => h) (rd_load_map Try.underlying22 rfl rfl rfl rfl rfl rfl (by assumption)) ?_) | (refine AD1.rd rfl rfl rfl (fun _ _ h => h) (rd_load_flat Try.underlying22 rfl rfl rfl rfl rfl rfl (fun _ => rfl) (by assumption) rfl) ?_))
        (first | (refine AD1.rp rfl rfl rfl (fun _ _ h => h) (rp_len_map Try.underlying22 rfl rfl (by assumption)) ?_) | (refine AD1.rp rfl rfl rfl (fun _ _ h => h) (rp_len_own Try.underlying22 rfl rfl) ?_) | (refine AD1.rp rfl rfl rfl (fun _ _ h => h) (rp_len_sl Try.underlying22 rfl rfl) ?_) | (refine AD1.rp rfl rfl rfl (fun _ _ h => h) (rp_len_nil Try.underlying22 rfl rfl) ?_) | (refine AD1.rp rfl rfl rfl (fun _ _ h => h) (rp_len_str Try.underlying22 rfl rfl) ?_))
        refine AD1.rp rfl rfl rfl (fun _ _ h => h) (rp_sub rfl rfl rfl (by first | omega | (dsimp only; omega))) ?_
        refine AD1.goo [3, 6] rfl ?_
        refine AO.call (post := ?pc99) rfl rfl (sk_call (args := [_, _, _]) ?hc99 ⟨Try.func58, rfl, rfl, rfl, rfl⟩ rfl rfl rfl rfl) ?_
        case hc99 => first | (refine Fn.decT (am_In _ _ _) ?_; first | omega | (dsimp only; omega)) | (refine Fn.decF (am_In _ _ _) ?_; first | omega | (dsimp only; omega)) | exact am_In _ _ _
        rintro _ rfl -
        try dsimp only
        refine AO.rp1 rfl rfl rfl (rp_not rfl rfl) ?_
        refine AO.rp1 rfl rfl rfl (rp_move rfl rfl) ?_
        (first | (refine AO.noV1 rfl rfl rfl rfl rfl ?_) | (refine AO.noU1 rfl rfl ⟨_, rfl, rfl⟩ rfl ?_) | (refine AO.rp1y rfl rfl rfl rfl (rp_move rfl rfl) ?_))
        (first | (refine AO.noV1 rfl rfl rfl rfl rfl ?_) | (refine AO.noU1 rfl rfl ⟨_, rfl, rfl⟩ rfl ?_) | (refine AO.rp1y rfl rfl rfl rfl (rp_gtrT rfl rfl rfl (by first | assumption | omega | (dsimp only; omega))) ?_) | (refine AO.rp1y rfl rfl rfl rfl (rp_gtrF rfl rfl rfl (by first | assumption | omega | (dsimp only; omega))) ?_) | (refine AO.rp1y rfl rfl rfl rfl (rp_gtr rfl rfl rfl) ?_))
        (first | (refine AO.noV1 rfl rfl rfl rfl rfl ?_) | (refine AO.noU1 rfl rfl ⟨_, rfl, rfl⟩ rfl ?_) | (refine AO.rp1y rfl rfl rfl rfl (rp_move rfl rfl) ?_))
        (first | (refine AO.noV rfl rfl rfl rfl rfl (fun _ _ h => h) ?_) | (refine AO.noU rfl rfl ⟨_, rfl, rfl⟩ rfl (fun _ _ h => h) ?_) | (refine AO.rpy rfl rfl rfl rfl (fun _ _ h => h) (rp_field_ref Try.underlying65 rfl rfl rfl inf3 (by decide) rfl) ?_) | (refine AO.rpy rfl rfl rfl rfl (fun _ _ h => h) (rp_field_ad Try.underlying65 rfl rfl rfl inf3 (by decide) rfl) ?_))
        (first | (refine AO.rd rfl rfl rfl (fun _ _ h => h) (ro_load Try.underlying3 rfl rfl rfl rfl rfl rfl) (by decide) ?_) | (refine AO.noV rfl rfl rfl rfl rfl (fun _ _ h => h) ?_) | (refine AO.noU rfl rfl ⟨_, rfl, rfl⟩ rfl (fun _ _ h => h) ?_) | (refine AO.rdy rfl rfl rfl rfl (fun _ _ h => h) (ro_load Try.underlying3 rfl rfl rfl rfl rfl rfl) (by decide) ?_))
        (first | (refine AO.noV rfl rfl rfl rfl rfl (fun _ _ h => h) ?_) | (refine AO.noU rfl rfl ⟨_, rfl, rfl⟩ rfl (fun _ _ h => h) ?_) | (refine AO.rpy rfl rfl rfl rfl (fun _ _ h => h) (rp_field_ref Try.underlying27 rfl rfl rfl inf25 (by decide) rfl) ?_) | (refine AO.rpy rfl rfl rfl rfl (fun _ _ h => h) (rp_field_ad Try.underlying27 rfl rfl rfl inf25 (by decide) rfl) ?_))
        (first | (refine AO.rd rfl rfl rfl (fun _ _ h => h) (ro_load Try.underlying25 rfl rfl rfl rfl rfl rfl) (by decide) ?_) | (refine AO.noV rfl rfl rfl rfl rfl (fun _ _ h => h) ?_) | (refine AO.noU rfl rfl ⟨_, rfl, rfl⟩ rfl (fun _ _ h => h) ?_) | (refine AO.rdy rfl rfl rfl rfl (fun _ _ h => h) (ro_load Try.underlying25 rfl rfl rfl rfl rfl rfl) (by decide) ?_))
        (first | (refine AO.noV1 rfl rfl rfl rfl rfl ?_) | (refine AO.noU1 rfl rfl ⟨_, rfl, rfl⟩ rfl ?_) | (refine AO.rp1y rfl rfl rfl rfl (rp_move rfl rfl) ?_))
        (first | (refine AO.noV1 rfl rfl rfl rfl rfl ?_) | (refine AO.noU1 rfl rfl ⟨_, rfl, rfl⟩ rfl ?_) | (refine AO.rp1y rfl rfl rfl rfl (rp_sub rfl rfl rfl (by first | omega | (dsimp only; omega))) ?_))
        (first | (refine AO.noV1 rfl rfl rfl rfl rfl ?_) | (refine AO.noU1 rfl rfl ⟨_, rfl, rfl⟩ rfl ?_) | (refine AO.rp1y rfl rfl rfl rfl (rp_index_own (k := j0) Try.underlying25 inf65 rfl rfl rfl (by omega) (by omega)) ?_) | (refine AO.rp1y rfl rfl rfl rfl (rp_index_map (k := j0) Try.underlying25 inf65 rfl rfl rfl (by omega) (by assumption)) ?_))
        (first | (refine AO.noV1 rfl rfl rfl rfl rfl ?_) | (refine AO.noU1 rfl rfl ⟨_, rfl, rfl⟩ rfl ?_) | (refine AO.rp1y rfl rfl rfl rfl (rp_field_ref Try.underlying65 rfl rfl rfl inf3 (by decide) rfl) ?_) | (refine AO.rp1y rfl rfl rfl rfl (rp_field_ad Try.underlying65 rfl rfl rfl inf3 (by decide) rfl) ?_))
        (first | (refine AO.noV1 rfl rfl rfl rfl rfl ?_) | (refine AO.noU1 rfl rfl ⟨_, rfl, rfl⟩ rfl ?_) | (refine AO.rd1y rfl rfl rfl rfl (rd_load_ref Try.underlying3 rfl rfl rfl rfl rfl rfl) ?_) | (refine AO.rd1y rfl rfl rfl rfl (rd_load_ad Try.underlying3 rfl rfl rfl rfl) ?_) | (refine AO.rd1y rfl rfl rfl rfl (rd_load_map Try.underlying3 rfl rfl rfl rfl rfl rfl (by assumption)) ?_) | (refine AO.rd1y rfl rfl rfl rfl (rd_load_flat Try.underlying3 rfl rfl rfl rfl rfl rfl (fun _ => rfl) (by assumption) rfl) ?_))
        (first | (refine AO.noV1 rfl rfl rfl rfl rfl ?_) | (refine AO.noU1 rfl rfl ⟨_, rfl, rfl⟩ rfl ?_) | (refine AO.rp1y rfl rfl rfl rfl (rp_leqT rfl rfl rfl (by first | assumption | omega | (dsimp only; omega))) ?_) | (refine AO.rp1y rfl rfl rfl rfl (rp_leqF rfl rfl rfl (by first | assumption | omega | (dsimp only; omega))) ?_) | (refine AO.rp1y rfl rfl rfl rfl (rp_leq rfl rfl rfl) ?_))
        (first | (refine AO.noV1 rfl rfl rfl rfl rfl ?_) | (refine AO.noU1 rfl rfl ⟨_, rfl, rfl⟩ rfl ?_) | (refine AO.rp1y rfl rfl rfl rfl (rp_pick rfl rfl rfl) ?_))
        refine AO.rp1 rfl rfl rfl (rp_pick rfl rfl rfl) ?_
        refine AO.nil ?_
        try simp only [thenS, S.put]
        refine AW.condF rfl ?_
        refine AW.skip ?_
        try simp only [thenS]
        refine AW.seq ?_
        refine AW.seq ?_
        refine AW.region ?_
        (first | (refine AL.rp rfl rfl (rp_field_ref Try.underlying65 rfl rfl rfl inf3 (by decide) rfl) ?_) | (refine AL.rp rfl rfl (rp_field_ad Try.underlying65 rfl rfl rfl inf3 (by decide) rfl) ?_))
        (first | (refine AL.rd rfl rfl (rd_load_ref Try.underlying3 rfl rfl rfl rfl rfl rfl) ?_) | (refine AL.rd rfl rfl (rd_load_ad Try.underlying3 rfl rfl rfl rfl) ?_) | (refine AL.rd rfl rfl (rd_load_map Try.underlying3 rfl rfl rfl rfl rfl rfl (by assumption)) ?_) | (refine AL.rd rfl rfl (rd_load_flat Try.underlying3 rfl rfl rfl rfl rfl rfl (fun _ => rfl) (by assumption) rfl) ?_))
        refine AL.call (post := ?pc100) rfl (sm_call (args := [_, _, _]) ?hc100 ⟨Try.func58, rfl, rfl, rfl, rfl⟩ rfl rfl rfl rfl) ?_
        case hc100 => first | (refine Fn.decT (am_In _ _ _) ?_; first | omega | (dsimp only; omega)) | (refine Fn.decF (am_In _ _ _) ?_; first | omega | (dsimp only; omega)) | exact am_In _ _ _
        rintro _ rfl -
        try dsimp only
        refine AL.rp rfl rfl (rp_not rfl rfl) ?_
        refine AL.rp rfl rfl (rp_move rfl rfl) ?_
        (first | (refine AL.noV rfl rfl rfl rfl ?_) | (refine AL.noU rfl ⟨_, rfl, rfl⟩ rfl ?_) | (refine AL.rpy rfl rfl rfl (rp_field_ref Try.underlying65 rfl rfl rfl inf29 (by decide) rfl) ?_) | (refine AL.rpy rfl rfl rfl (rp_field_ad Try.underlying65 rfl rfl rfl inf29 (by decide) rfl) ?_))
        (first | (refine AL.noV rfl rfl rfl rfl ?_) | (refine AL.noU rfl ⟨_, rfl, rfl⟩ rfl ?_) | (refine AL.rdy rfl rfl rfl (rd_load_ref Try.underlying29 rfl rfl rfl rfl rfl rfl) ?_) | (refine AL.rdy rfl rfl rfl (rd_load_ad Try.underlying29 rfl rfl rfl rfl) ?_) | (refine AL.rdy rfl rfl rfl (rd_load_map Try.underlying29 rfl rfl rfl rfl rfl rfl (by assumption)) ?_) | (refine AL.rdy rfl rfl rfl (rd_load_flat Try.underlying29 rfl rfl rfl rfl rfl rfl (fun _ => rfl) (by assumption) rfl) ?_))
        (first | (refine AL.noV rfl rfl rfl rfl ?_) | (refine AL.noU rfl ⟨_, rfl, rfl⟩ rfl ?_) | (refine AL.rpy rfl rfl rfl (rp_len_map Try.underlying29 rfl rfl (by assumption)) ?_) | (refine AL.rpy rfl rfl rfl (rp_len_own Try.underlying29 rfl rfl) ?_) | (refine AL.rpy rfl rfl rfl (rp_len_sl Try.underlying29 rfl rfl) ?_) | (refine AL.rpy rfl rfl rfl (rp_len_nil Try.underlying29 rfl rfl) ?_) | (refine AL.rpy rfl rfl rfl (rp_len_str Try.underlying29 rfl rfl) ?_))
        (first | (refine AL.noV rfl rfl rfl rfl ?_) | (refine AL.noU rfl ⟨_, rfl, rfl⟩ rfl ?_) | (refine AL.rpy rfl rfl rfl (rp_gtrT rfl rfl rfl (by first | assumption | omega | (dsimp only; omega))) ?_) | (refine AL.rpy rfl rfl rfl (rp_gtrF rfl rfl rfl (by first | assumption | omega | (dsimp only; omega))) ?_) | (refine AL.rpy rfl rfl rfl (rp_gtr rfl rfl rfl) ?_))
        refine AL.rp rfl rfl (rp_pick rfl rfl rfl) ?_
        refine AL.nil ?_
        try simp only [thenS, S.put, S.newObj, setL, V.cs, List.length_cons, List.length_nil, List.take_succ_cons, List.take_zero, List.drop_succ_cons, List.drop_zero, List.drop_nil, List.nil_append, List.cons_append, List.append_nil, Nat.zero_add, Nat.reduceAdd, List.map_cons, List.map_nil, List.set_cons_zero, List.set_cons_succ]
        refine AW.condT rfl ?_
        refine AW.seq ?_
        refine AW.region ?_
        refine AL.rp rfl rfl (rp_assign rfl rfl) ?_
        refine AL.nil ?_
        try simp only [thenS, S.put]
        refine AW.ret ?_
        exact ⟨[_], ⟨rfl, trivial⟩, rfl, by simp [tupOf, V.pure, V.has]⟩
     ·clear hok
      rcases hbe with ⟨hk0, rfl⟩ | ⟨j0, p, hk0, hp, rfl⟩
      ·skip
       omega
      ·obtain ⟨ps, pw, po⟩ := p
       simp only at hla hmk hl
       refine AW.seq ?_
       refine AW.seq ?_
       refine AW.region ?_
       refine AL.rp rfl rfl (rp_move rfl rfl) ?_
       (first | (refine AL.rp rfl rfl (rp_field_ref Try.underlying27 rfl rfl rfl inf25 (by decide) rfl) ?_) | (refine AL.rp rfl rfl (rp_field_ad Try.underlying27 rfl rfl rfl inf25 (by decide) rfl) ?_))
       (first | (refine AL.rd rfl rfl (rd_load_ref Try.underlying25 rfl rfl rfl rfl rfl rfl) ?_) | (refine AL.rd rfl rfl (rd_load_ad Try.underlying25 rfl rfl rfl rfl) ?_) | (refine AL.rd rfl rfl (rd_load_map Try.underlying25 rfl rfl rfl rfl rfl rfl (by assumption)) ?_) | (refine AL.rd rfl rfl (rd_load_flat Try.underlying25 rfl rfl rfl rfl rfl rfl (fun _ => rfl) (by assumption) rfl) ?_))
       (first | (refine AL.rp rfl rfl (rp_len_map Try.underlying25 rfl rfl (by assumption)) ?_) | (refine AL.rp rfl rfl (rp_len_own Try.underlying25 rfl rfl) ?_) | (refine AL.rp rfl rfl (rp_len_sl Try.underlying25 rfl rfl) ?_) | (refine AL.rp rfl rfl (rp_len_nil Try.underlying25 rfl rfl) ?_) | (refine AL.rp rfl rfl (rp_len_str Try.underlying25 rfl rfl) ?_))
       (first | (refine AL.rp rfl rfl (rp_lssT rfl rfl rfl (by first | assumption | omega | (dsimp only; omega))) ?_) | (refine AL.rp rfl rfl (rp_lssF rfl rfl rfl (by first | assumption | omega | (dsimp only; omega))) ?_) | (refine AL.rp rfl rfl (rp_lss rfl rfl rfl) ?_))
       refine AL.nil ?_
       try simp only [thenS, S.put]
       refine AW.condT rfl ?_
       refine AW.skip ?_
       try simp only [thenS]
       refine AW.seq ?_
       refine AW.block ?_
       refine AW.seq ?_
       refine AW.region ?_
       (first | (refine AL.rp rfl rfl (rp_field_ref Try.underlying27 rfl rfl rfl inf25 (by decide) rfl) ?_) | (refine AL.rp rfl rfl (rp_field_ad Try.underlying27 rfl rfl rfl inf25 (by decide) rfl) ?_))
       (first | (refine AL.rd rfl rfl (rd_load_ref Try.underlying25 rfl rfl rfl rfl rfl rfl) ?_) | (refine AL.rd rfl rfl (rd_load_ad Try.underlying25 rfl rfl rfl rfl) ?_) | (refine AL.rd rfl rfl (rd_load_map Try.underlying25 rfl rfl rfl rfl rfl rfl (by assumption)) ?_) | (refine AL.rd rfl rfl (rd_load_flat Try.underlying25 rfl rfl rfl rfl rfl rfl (fun _ => rfl) (by assumption) rfl) ?_))
       refine AL.rp rfl rfl (rp_move rfl rfl) ?_
       (first | (refine AL.rp rfl rfl (rp_index_map Try.underlying25 inf65 rfl rfl rfl rfl (by assumption)) ?_) | (refine AL.rp rfl rfl (rp_index_own Try.underlying25 inf65 rfl rfl rfl rfl (by first | assumption | omega)) ?_) | (refine AL.rp rfl rfl (rd_index_sl Try.underlying25 inf65 rfl rfl rfl rfl (by assumption)) ?_) | (refine AL.rp rfl rfl (rp_index_own Try.underlying25 inf65 rfl rfl rfl (by omega) (by omega)) ?_))
       (first | (refine AL.rd rfl rfl (rd_loads_ref Try.underlying65 rfl inf65 rfl rfl rfl rfl rfl rfl) ?_) | (refine AL.rd rfl rfl (rd_loads_ad Try.underlying65 rfl inf65 rfl rfl rfl rfl) ?_))
       refine AL.sm rfl (sm_alloc (l := [.d (.p (.int .i64 0)), .d (.p (.int .i64 0)), .d (.p (.slice none 0 0))]) 6 inf65 rfl (by first | rfl | simp [S.clean, S.put, S.newObj, S.forget, V.has, V.hasL, junkIf, setL, V.cs, hasL_i, hasL_b, hasL_s, hasL_n, hasL_rep, hasL_flat, hasL_append, -List.map_set]) rfl rfl) ?_
       refine AL.st rfl (st_store_any inf65 rfl rfl rfl rfl rfl rfl rfl rfl (by first | decide | (simp; done) | (simp; omega)) rfl) ?_
       refine AL.nil ?_
       try simp only [thenS, S.put, S.newObj, setL, V.cs, List.length_cons, List.length_nil, List.take_succ_cons, List.take_zero, List.drop_succ_cons, List.drop_zero, List.drop_nil, List.nil_append, List.cons_append, List.append_nil, Nat.zero_add, Nat.reduceAdd, List.map_cons, List.map_nil, List.set_cons_zero, List.set_cons_succ]
       refine AW.seq ?_
       refine AW.seq ?_
       refine AW.draw [(0, true), (1, true), (2, true), (3, true), (4, true), (5, true), (6, false), (7, false), (8, false), (9, false), (10, false), (11, false), (12, true), (13, true), (14, true), (15, true), (16, false), (17, false), (18, false), (19, false), (20, false), (21, false), (22, false), (23, false)] (fun i => !([] : List Nat).contains i) 24 (by kernel_rfl) (by kernel_rfl) rfl (by kernel_rfl) ?_
       (first | (refine AD1.rp rfl rfl rfl (fun _ _ h => h) (rp_field_ref Try.underlying65 rfl rfl rfl inf3 (by decide) rfl) ?_) | (refine AD1.rp rfl rfl rfl (fun _ _ h => h) (rp_field_ad Try.underlying65 rfl rfl rfl inf3 (by decide) rfl) ?_))
       (first | (refine AD1.rd rfl rfl rfl (fun _ _ h => h) (rd_load_ref Try.underlying3 rfl rfl rfl rfl rfl rfl) ?_) | (refine AD1.rd rfl rfl rfl (fun _ _ h => h) (rd_load_ad Try.underlying3 rfl rfl rfl rfl) ?_) | (refine AD1.rd rfl rfl rfl (fun _ _ h => h) (rd_load_map Try.underlying3 rfl rfl rfl rfl rfl rfl (by assumption)) ?_) | (refine AD1.rd rfl rfl rfl (fun _ _ h => h) (rd_load_flat Try.underlying3 rfl rfl rfl rfl rfl rfl (fun _ => rfl) (by assumption) rfl) ?_))
       (first | (refine AD1.rp rfl rfl rfl (fun _ _ h => h) (rp_field_ref Try.underlying24 rfl rfl rfl inf22 (by decide) rfl) ?_) | (refine AD1.rp rfl rfl rfl (fun _ _ h => h) (rp_field_ad Try.underlying24 rfl rfl rfl inf22 (by decide) rfl) ?_))
       (first | (refine AD1.rd rfl rfl rfl (fun _ _ h => h) (rd_load_ref Try.underlying22 rfl rfl rfl rfl rfl rfl) ?_) | (refine AD1.rd rfl rfl rfl (fun _ _ h => h) (rd_load_ad Try.underlying22 rfl rfl rfl rfl) ?_) | (refine AD1.rd rfl rfl rfl (fun _ _ h => h) (rd_load_map Try.underlying22 rfl rfl rfl rfl rfl rfl (by assumption)) ?_) | (refine AD1.rd rfl rfl rfl (fun _ _ h => h) (rd_load_flat Try.underlying22 rfl rfl rfl rfl rfl rfl (fun _ => rfl) (by assumption) rfl) ?_))
       (first | (refine AD1.rp rfl rfl rfl (fun _ _ h => h) (rp_len_map Try.underlying22 rfl rfl (by assumption)) ?_) | (refine AD1.rp rfl rfl rfl (fun _ _ h => h) (rp_len_own Try.underlying22 rfl rfl) ?_) | (refine AD1.rp rfl rfl rfl (fun _ _ h => h) (rp_len_sl Try.underlying22 rfl rfl) ?_) | (refine AD1.rp rfl rfl rfl (fun _ _ h => h) (rp_len_nil Try.underlying22 rfl rfl) ?_) | (refine AD1.rp rfl rfl rfl (fun _ _ h => h) (rp_len_str Try.underlying22 rfl rfl) ?_))
       refine AD1.rp rfl rfl rfl (fun _ _ h => h) (rp_sub rfl rfl rfl (by first | omega | (dsimp only; omega))) ?_
       refine AD1.goo [3, 6] rfl ?_
       refine AO.call (post := ?pc101) rfl rfl (sk_call (args := [_, _, _]) ?hc101 ⟨Try.func58, rfl, rfl, rfl, rfl⟩ rfl rfl rfl rfl) ?_
       case hc101 => first | (refine Fn.decT (am_In _ _ _) ?_; first | omega | (dsimp only; omega)) | (refine Fn.decF (am_In _ _ _) ?_; first | omega | (dsimp only; omega)) | exact am_In _ _ _
       rintro _ rfl -
       try dsimp only
       refine AO.rp1 rfl rfl rfl (rp_not rfl rfl) ?_
       refine AO.rp1 rfl rfl rfl (rp_move rfl rfl) ?_
       (first | (refine AO.noV1 rfl rfl rfl rfl rfl ?_) | (refine AO.noU1 rfl rfl ⟨_, rfl, rfl⟩ rfl ?_) | (refine AO.rp1y rfl rfl rfl rfl (rp_move rfl rfl) ?_))
       (first | (refine AO.noV1 rfl rfl rfl rfl rfl ?_) | (refine AO.noU1 rfl rfl ⟨_, rfl, rfl⟩ rfl ?_) | (refine AO.rp1y rfl rfl rfl rfl (rp_gtrT rfl rfl rfl (by first | assumption | omega | (dsimp only; omega))) ?_) | (refine AO.rp1y rfl rfl rfl rfl (rp_gtrF rfl rfl rfl (by first | assumption | omega | (dsimp only; omega))) ?_) | (refine AO.rp1y rfl rfl rfl rfl (rp_gtr rfl rfl rfl) ?_))
       (first | (refine AO.noV1 rfl rfl rfl rfl rfl ?_) | (refine AO.noU1 rfl rfl ⟨_, rfl, rfl⟩ rfl ?_) | (refine AO.rp1y rfl rfl rfl rfl (rp_move rfl rfl) ?_))
       (first | (refine AO.noV rfl rfl rfl rfl rfl (fun _ _ h => h) ?_) | (refine AO.noU rfl rfl ⟨_, rfl, rfl⟩ rfl (fun _ _ h => h) ?_) | (refine AO.rpy rfl rfl rfl rfl (fun _ _ h => h) (rp_field_ref Try.underlying65 rfl rfl rfl inf3 (by decide) rfl) ?_) | (refine AO.rpy rfl rfl rfl rfl (fun _ _ h => h) (rp_field_ad Try.underlying65 rfl rfl rfl inf3 (by decide) rfl) ?_))
       (first | (refine AO.rd rfl rfl rfl (fun _ _ h => h) (ro_load Try.underlying3 rfl rfl rfl rfl rfl rfl) (by decide) ?_) | (refine AO.noV rfl rfl rfl rfl rfl (fun _ _ h => h) ?_) | (refine AO.noU rfl rfl ⟨_, rfl, rfl⟩ rfl (fun _ _ h => h) ?_) | (refine AO.rdy rfl rfl rfl rfl (fun _ _ h => h) (ro_load Try.underlying3 rfl rfl rfl rfl rfl rfl) (by decide) ?_))
       (first | (refine AO.noV rfl rfl rfl rfl rfl (fun _ _ h => h) ?_) | (refine AO.noU rfl rfl ⟨_, rfl, rfl⟩ rfl (fun _ _ h => h) ?_) | (refine AO.rpy rfl rfl rfl rfl (fun _ _ h => h) (rp_field_ref Try.underlying27 rfl rfl rfl inf25 (by decide) rfl) ?_) | (refine AO.rpy rfl rfl rfl rfl (fun _ _ h => h) (rp_field_ad Try.underlying27 rfl rfl rfl inf25 (by decide) rfl) ?_))
       (first | (refine AO.rd rfl rfl rfl (fun _ _ h => h) (ro_load Try.underlying25 rfl rfl rfl rfl rfl rfl) (by decide) ?_) | (refine AO.noV rfl rfl rfl rfl rfl (fun _ _ h => h) ?_) | (refine AO.noU rfl rfl ⟨_, rfl, rfl⟩ rfl (fun _ _ h => h) ?_) | (refine AO.rdy rfl rfl rfl rfl (fun _ _ h => h) (ro_load Try.underlying25 rfl rfl rfl rfl rfl rfl) (by decide) ?_))
       (first | (refine AO.noV1 rfl rfl rfl rfl rfl ?_) | (refine AO.noU1 rfl rfl ⟨_, rfl, rfl⟩ rfl ?_) | (refine AO.rp1y rfl rfl rfl rfl (rp_move rfl rfl) ?_))
       (first | (refine AO.noV1 rfl rfl rfl rfl rfl ?_) | (refine AO.noU1 rfl rfl ⟨_, rfl, rfl⟩ rfl ?_) | (refine AO.rp1y rfl rfl rfl rfl (rp_sub rfl rfl rfl (by first | omega | (dsimp only; omega))) ?_))
       (first | (refine AO.noV1 rfl rfl rfl rfl rfl ?_) | (refine AO.noU1 rfl rfl ⟨_, rfl, rfl⟩ rfl ?_) | (refine AO.rp1y rfl rfl rfl rfl (rp_index_own (k := j0) Try.underlying25 inf65 rfl rfl rfl (by omega) (by omega)) ?_) | (refine AO.rp1y rfl rfl rfl rfl (rp_index_map (k := j0) Try.underlying25 inf65 rfl rfl rfl (by omega) (by assumption)) ?_))
       (first | (refine AO.noV1 rfl rfl rfl rfl rfl ?_) | (refine AO.noU1 rfl rfl ⟨_, rfl, rfl⟩ rfl ?_) | (refine AO.rp1y rfl rfl rfl rfl (rp_field_ref Try.underlying65 rfl rfl rfl inf3 (by decide) rfl) ?_) | (refine AO.rp1y rfl rfl rfl rfl (rp_field_ad Try.underlying65 rfl rfl rfl inf3 (by decide) rfl) ?_))
       (first | (refine AO.noV1 rfl rfl rfl rfl rfl ?_) | (refine AO.noU1 rfl rfl ⟨_, rfl, rfl⟩ rfl ?_) | (refine AO.rd1y rfl rfl rfl rfl (rd_load_ref Try.underlying3 rfl rfl rfl rfl rfl rfl) ?_) | (refine AO.rd1y rfl rfl rfl rfl (rd_load_ad Try.underlying3 rfl rfl rfl rfl) ?_) | (refine AO.rd1y rfl rfl rfl rfl (rd_load_map Try.underlying3 rfl rfl rfl rfl rfl rfl (by assumption)) ?_) | (refine AO.rd1y rfl rfl rfl rfl (rd_load_flat Try.underlying3 rfl rfl rfl rfl rfl rfl (fun _ => rfl) (by assumption) rfl) ?_))
       (first | (refine AO.noV1 rfl rfl rfl rfl rfl ?_) | (refine AO.noU1 rfl rfl ⟨_, rfl, rfl⟩ rfl ?_) | (refine AO.rp1y rfl rfl rfl rfl (rp_leqT rfl rfl rfl (by first | assumption | omega | (dsimp only; omega))) ?_) | (refine AO.rp1y rfl rfl rfl rfl (rp_leqF rfl rfl rfl (by first | assumption | omega | (dsimp only; omega))) ?_) | (refine AO.rp1y rfl rfl rfl rfl (rp_leq rfl rfl rfl) ?_))
       (first | (refine AO.noV1 rfl rfl rfl rfl rfl ?_) | (refine AO.noU1 rfl rfl ⟨_, rfl, rfl⟩ rfl ?_) | (refine AO.rp1y rfl rfl rfl rfl (rp_pick rfl rfl rfl) ?_))
       refine AO.rp1 rfl rfl rfl (rp_pick rfl rfl rfl) ?_
       refine AO.nil ?_
       try simp only [thenS, S.put]
       refine AW.condT rfl ?_
       refine AW.seq ?_
       refine AW.region ?_
       refine AL.rp rfl rfl (rp_assign rfl rfl) ?_
       refine AL.nil ?_
       try simp only [thenS, S.put]
       refine AW.ret ?_
       exact ⟨[_], ⟨rfl, trivial⟩, rfl, by simp [tupOf, V.pure, V.has]⟩
    ·clear hok
     refine AW.seq ?_
     refine AW.seq ?_
     refine AW.region ?_
     refine AL.rp rfl rfl (rp_move rfl rfl) ?_
     (first | (refine AL.rp rfl rfl (rp_field_ref Try.underlying27 rfl rfl rfl inf25 (by decide) rfl) ?_) | (refine AL.rp rfl rfl (rp_field_ad Try.underlying27 rfl rfl rfl inf25 (by decide) rfl) ?_))
     (first | (refine AL.rd rfl rfl (rd_load_ref Try.underlying25 rfl rfl rfl rfl rfl rfl) ?_) | (refine AL.rd rfl rfl (rd_load_ad Try.underlying25 rfl rfl rfl rfl) ?_) | (refine AL.rd rfl rfl (rd_load_map Try.underlying25 rfl rfl rfl rfl rfl rfl (by assumption)) ?_) | (refine AL.rd rfl rfl (rd_load_flat Try.underlying25 rfl rfl rfl rfl rfl rfl (fun _ => rfl) (by assumption) rfl) ?_))
     (first | (refine AL.rp rfl rfl (rp_len_map Try.underlying25 rfl rfl (by assumption)) ?_) | (refine AL.rp rfl rfl (rp_len_own Try.underlying25 rfl rfl) ?_) | (refine AL.rp rfl rfl (rp_len_sl Try.underlying25 rfl rfl) ?_) | (refine AL.rp rfl rfl (rp_len_nil Try.underlying25 rfl rfl) ?_) | (refine AL.rp rfl rfl (rp_len_str Try.underlying25 rfl rfl) ?_))
     (first | (refine AL.rp rfl rfl (rp_lssT rfl rfl rfl (by first | assumption | omega | (dsimp only; omega))) ?_) | (refine AL.rp rfl rfl (rp_lssF rfl rfl rfl (by first | assumption | omega | (dsimp only; omega))) ?_) | (refine AL.rp rfl rfl (rp_lss rfl rfl rfl) ?_))
     refine AL.nil ?_
     try simp only [thenS, S.put]
     refine AW.condT rfl ?_
     refine AW.skip ?_
     try simp only [thenS]
     refine AW.seq ?_
     refine AW.block ?_
     refine AW.seq ?_
     refine AW.region ?_
     (first | (refine AL.rp rfl rfl (rp_field_ref Try.underlying27 rfl rfl rfl inf25 (by decide) rfl) ?_) | (refine AL.rp rfl rfl (rp_field_ad Try.underlying27 rfl rfl rfl inf25 (by decide) rfl) ?_))
     (first | (refine AL.rd rfl rfl (rd_load_ref Try.underlying25 rfl rfl rfl rfl rfl rfl) ?_) | (refine AL.rd rfl rfl (rd_load_ad Try.underlying25 rfl rfl rfl rfl) ?_) | (refine AL.rd rfl rfl (rd_load_map Try.underlying25 rfl rfl rfl rfl rfl rfl (by assumption)) ?_) | (refine AL.rd rfl rfl (rd_load_flat Try.underlying25 rfl rfl rfl rfl rfl rfl (fun _ => rfl) (by assumption) rfl) ?_))
     refine AL.rp rfl rfl (rp_move rfl rfl) ?_
     (first | (refine AL.rp rfl rfl (rp_index_map Try.underlying25 inf65 rfl rfl rfl rfl (by assumption)) ?_) | (refine AL.rp rfl rfl (rp_index_own Try.underlying25 inf65 rfl rfl rfl rfl (by first | assumption | omega)) ?_) | (refine AL.rp rfl rfl (rd_index_sl Try.underlying25 inf65 rfl rfl rfl rfl (by assumption)) ?_) | (refine AL.rp rfl rfl (rp_index_own Try.underlying25 inf65 rfl rfl rfl (by omega) (by omega)) ?_))
     (first | (refine AL.rd rfl rfl (rd_loads_ref Try.underlying65 rfl inf65 rfl rfl rfl rfl rfl rfl) ?_) | (refine AL.rd rfl rfl (rd_loads_ad Try.underlying65 rfl inf65 rfl rfl rfl rfl) ?_))
     refine AL.sm rfl (sm_alloc (l := [.d (.p (.int .i64 0)), .d (.p (.int .i64 0)), .d (.p (.slice none 0 0))]) 6 inf65 rfl (by first | rfl | simp [S.clean, S.put, S.newObj, S.forget, V.has, V.hasL, junkIf, setL, V.cs, hasL_i, hasL_b, hasL_s, hasL_n, hasL_rep, hasL_flat, hasL_append, -List.map_set]) rfl rfl) ?_
     refine AL.st rfl (st_store_any inf65 rfl rfl rfl rfl rfl rfl rfl rfl (by first | decide | (simp; done) | (simp; omega)) rfl) ?_
     refine AL.nil ?_
     try simp only [thenS, S.put, S.newObj, setL, V.cs, List.length_cons, List.length_nil, List.take_succ_cons, List.take_zero, List.drop_succ_cons, List.drop_zero, List.drop_nil, List.nil_append, List.cons_append, List.append_nil, Nat.zero_add, Nat.reduceAdd, List.map_cons, List.map_nil, List.set_cons_zero, List.set_cons_succ]
     refine AW.seq ?_
     refine AW.seq ?_
     refine AW.draw [(0, true), (1, true), (2, true), (3, true), (4, true), (5, true), (6, false), (7, false), (8, false), (9, false), (10, false), (11, false), (12, true), (13, true), (14, true), (15, true), (16, false), (17, false), (18, false), (19, false), (20, false), (21, false), (22, false), (23, false)] (fun i => !([] : List Nat).contains i) 24 (by kernel_rfl) (by kernel_rfl) rfl (by kernel_rfl) ?_
     (first | (refine AD1.rp rfl rfl rfl (fun _ _ h => h) (rp_field_ref Try.underlying65 rfl rfl rfl inf3 (by decide) rfl) ?_) | (refine AD1.rp rfl rfl rfl (fun _ _ h => h) (rp_field_ad Try.underlying65 rfl rfl rfl inf3 (by decide) rfl) ?_))
     (first | (refine AD1.rd rfl rfl rfl (fun _ _ h => h) (rd_load_ref Try.underlying3 rfl rfl rfl rfl rfl rfl) ?_) | (refine AD1.rd rfl rfl rfl (fun _ _ h => h) (rd_load_ad Try.underlying3 rfl rfl rfl rfl) ?_) | (refine AD1.rd rfl rfl rfl (fun _ _ h => h) (rd_load_map Try.underlying3 rfl rfl rfl rfl rfl rfl (by assumption)) ?_) | (refine AD1.rd rfl rfl rfl (fun _ _ h => h) (rd_load_flat Try.underlying3 rfl rfl rfl rfl rfl rfl (fun _ => rfl) (by assumption) rfl) ?_))
     (first | (refine AD1.rp rfl rfl rfl (fun _ _ h => h) (rp_field_ref Try.underlying24 rfl rfl rfl inf22 (by decide) rfl) ?_) | (refine AD1.rp rfl rfl rfl (fun _ _ h => h) (rp_field_ad Try.underlying24 rfl rfl rfl inf22 (by decide) rfl) ?_))
     (first | (refine AD1.rd rfl rfl rfl (fun _ _ h => h) (rd_load_ref Try.underlying22 rfl rfl rfl rfl rfl rfl) ?_) | (refine AD1.rd rfl rfl rfl (fun _ _ h => h) (rd_load_ad Try.underlying22 rfl rfl rfl rfl) ?_) | (refine AD1.rd rfl rfl rfl (fun _ _ h => h) (rd_load_map Try.underlying22 rfl rfl rfl rfl rfl rfl (by assumption)) ?_) | (refine AD1.rd rfl rfl rfl (fun _ _ h => h) (rd_load_flat Try.underlying22 rfl rfl rfl rfl rfl rfl (fun _ => rfl) (by assumption) rfl) ?_))
     (first | (refine AD1.rp rfl rfl rfl (fun _ _ h => h) (rp_len_map Try.underlying22 rfl rfl (by assumption)) ?_) | (refine AD1.rp rfl rfl rfl (fun _ _ h => h) (rp_len_own Try.underlying22 rfl rfl) ?_) | (refine AD1.rp rfl rfl rfl (fun _ _ h => h) (rp_len_sl Try.underlying22 rfl rfl) ?_) | (refine AD1.rp rfl rfl rfl (fun _ _ h => h) (rp_len_nil Try.underlying22 rfl rfl) ?_) | (refine AD1.rp rfl rfl rfl (fun _ _ h => h) (rp_len_str Try.underlying22 rfl rfl) ?_))
     refine AD1.rp rfl rfl rfl (fun _ _ h => h) (rp_sub rfl rfl rfl (by first | omega | (dsimp only; omega))) ?_
     refine AD1.goo [3, 6] rfl ?_
     refine AO.call (post := ?pc102) rfl rfl (sk_call (args := [_, _, _]) ?hc102 ⟨Try.func58, rfl, rfl, rfl, rfl⟩ rfl rfl rfl rfl) ?_
     case hc102 => first | (refine Fn.decT (am_In _ _ _) ?_; first | omega | (dsimp only; omega)) | (refine Fn.decF (am_In _ _ _) ?_; first | omega | (dsimp only; omega)) | exact am_In _ _ _
     rintro _ rfl -
     try dsimp only
     refine AO.rp1 rfl rfl rfl (rp_not rfl rfl) ?_
     refine AO.rp1 rfl rfl rfl (rp_move rfl rfl) ?_
     (first | (refine AO.noV1 rfl rfl rfl rfl rfl ?_) | (refine AO.noU1 rfl rfl ⟨_, rfl, rfl⟩ rfl ?_) | (refine AO.rp1y rfl rfl rfl rfl (rp_move rfl rfl) ?_))
     (first | (refine AO.noV1 rfl rfl rfl rfl rfl ?_) | (refine AO.noU1 rfl rfl ⟨_, rfl, rfl⟩ rfl ?_) | (refine AO.rp1y rfl rfl rfl rfl (rp_gtrT rfl rfl rfl (by first | assumption | omega | (dsimp only; omega))) ?_) | (refine AO.rp1y rfl rfl rfl rfl (rp_gtrF rfl rfl rfl (by first | assumption | omega | (dsimp only; omega))) ?_) | (refine AO.rp1y rfl rfl rfl rfl (rp_gtr rfl rfl rfl) ?_))
     (first | (refine AO.noV1 rfl rfl rfl rfl rfl ?_) | (refine AO.noU1 rfl rfl ⟨_, rfl, rfl⟩ rfl ?_) | (refine AO.rp1y rfl rfl rfl rfl (rp_move rfl rfl) ?_))
     (first | (refine AO.noV rfl rfl rfl rfl rfl (fun _ _ h => h) ?_) | (refine AO.noU rfl rfl ⟨_, rfl, rfl⟩ rfl (fun _ _ h => h) ?_) | (refine AO.rpy rfl rfl rfl rfl (fun _ _ h => h) (rp_field_ref Try.underlying65 rfl rfl rfl inf3 (by decide) rfl) ?_) | (refine AO.rpy rfl rfl rfl rfl (fun _ _ h => h) (rp_field_ad Try.underlying65 rfl rfl rfl inf3 (by decide) rfl) ?_))
     (first | (refine AO.rd rfl rfl rfl (fun _ _ h => h) (ro_load Try.underlying3 rfl rfl rfl rfl rfl rfl) (by decide) ?_) | (refine AO.noV rfl rfl rfl rfl rfl (fun _ _ h => h) ?_) | (refine AO.noU rfl rfl ⟨_, rfl, rfl⟩ rfl (fun _ _ h => h) ?_) | (refine AO.rdy rfl rfl rfl rfl (fun _ _ h => h) (ro_load Try.underlying3 rfl rfl rfl rfl rfl rfl) (by decide) ?_))
     (first | (refine AO.noV rfl rfl rfl rfl rfl (fun _ _ h => h) ?_) | (refine AO.noU rfl rfl ⟨_, rfl, rfl⟩ rfl (fun _ _ h => h) ?_) | (refine AO.rpy rfl rfl rfl rfl (fun _ _ h => h) (rp_field_ref Try.underlying27 rfl rfl rfl inf25 (by decide) rfl) ?_) | (refine AO.rpy rfl rfl rfl rfl (fun _ _ h => h) (rp_field_ad Try.underlying27 rfl rfl rfl inf25 (by decide) rfl) ?_))
     (first | (refine AO.rd rfl rfl rfl (fun _ _ h => h) (ro_load Try.underlying25 rfl rfl rfl rfl rfl rfl) (by decide) ?_) | (refine AO.noV rfl rfl rfl rfl rfl (fun _ _ h => h) ?_) | (refine AO.noU rfl rfl ⟨_, rfl, rfl⟩ rfl (fun _ _ h => h) ?_) | (refine AO.rdy rfl rfl rfl rfl (fun _ _ h => h) (ro_load Try.underlying25 rfl rfl rfl rfl rfl rfl) (by decide) ?_))
     (first | (refine AO.noV1 rfl rfl rfl rfl rfl ?_) | (refine AO.noU1 rfl rfl ⟨_, rfl, rfl⟩ rfl ?_) | (refine AO.rp1y rfl rfl rfl rfl (rp_move rfl rfl) ?_))
     (first | (refine AO.noV1 rfl rfl rfl rfl rfl ?_) | (refine AO.noU1 rfl rfl ⟨_, rfl, rfl⟩ rfl ?_) | (refine AO.rp1y rfl rfl rfl rfl (rp_sub rfl rfl rfl (by first | omega | (dsimp only; omega))) ?_))
     (first | (refine AO.noV1 rfl rfl rfl rfl rfl ?_) | (refine AO.noU1 rfl rfl ⟨_, rfl, rfl⟩ rfl ?_) | (refine AO.rp1y rfl rfl rfl rfl (rp_index_own (k := j0) Try.underlying25 inf65 rfl rfl rfl (by omega) (by omega)) ?_) | (refine AO.rp1y rfl rfl rfl rfl (rp_index_map (k := j0) Try.underlying25 inf65 rfl rfl rfl (by omega) (by assumption)) ?_))
     (first | (refine AO.noV1 rfl rfl rfl rfl rfl ?_) | (refine AO.noU1 rfl rfl ⟨_, rfl, rfl⟩ rfl ?_) | (refine AO.rp1y rfl rfl rfl rfl (rp_field_ref Try.underlying65 rfl rfl rfl inf3 (by decide) rfl) ?_) | (refine AO.rp1y rfl rfl rfl rfl (rp_field_ad Try.underlying65 rfl rfl rfl inf3 (by decide) rfl) ?_))
     (first | (refine AO.noV1 rfl rfl rfl rfl rfl ?_) | (refine AO.noU1 rfl rfl ⟨_, rfl, rfl⟩ rfl ?_) | (refine AO.rd1y rfl rfl rfl rfl (rd_load_ref Try.underlying3 rfl rfl rfl rfl rfl rfl) ?_) | (refine AO.rd1y rfl rfl rfl rfl (rd_load_ad Try.underlying3 rfl rfl rfl rfl) ?_) | (refine AO.rd1y rfl rfl rfl rfl (rd_load_map Try.underlying3 rfl rfl rfl rfl rfl rfl (by assumption)) ?_) | (refine AO.rd1y rfl rfl rfl rfl (rd_load_flat Try.underlying3 rfl rfl rfl rfl rfl rfl (fun _ => rfl) (by assumption) rfl) ?_))
     (first | (refine AO.noV1 rfl rfl rfl rfl rfl ?_) | (refine AO.noU1 rfl rfl ⟨_, rfl, rfl⟩ rfl ?_) | (refine AO.rp1y rfl rfl rfl rfl (rp_leqT rfl rfl rfl (by first | assumption | omega | (dsimp only; omega))) ?_) | (refine AO.rp1y rfl rfl rfl rfl (rp_leqF rfl rfl rfl (by first | assumption | omega | (dsimp only; omega))) ?_) | (refine AO.rp1y rfl rfl rfl rfl (rp_leq rfl rfl rfl) ?_))
     (first | (refine AO.noV1 rfl rfl rfl rfl rfl ?_) | (refine AO.noU1 rfl rfl ⟨_, rfl, rfl⟩ rfl ?_) | (refine AO.rp1y rfl rfl rfl rfl (rp_pick rfl rfl rfl) ?_))
     refine AO.rp1 rfl rfl rfl (rp_pick rfl rfl rfl) ?_
     refine AO.nil ?_
     try simp only [thenS, S.put]
     refine AW.condT rfl ?_
     refine AW.seq ?_
     refine AW.region ?_
     refine AL.rp rfl rfl (rp_assign rfl rfl) ?_
     refine AL.nil ?_
     try simp only [thenS, S.put]
     refine AW.ret ?_
     exact ⟨[_], ⟨rfl, trivial⟩, rfl, by simp [tupOf, V.pure, V.has]⟩
  ·have hN := mksOk_end (n := n) (last := last) (l := ms) (k := k) (by omega)
   rw [hmk] at hN
   subst hN
   refine AW.seq ?_
   refine AW.seq ?_
   refine AW.region ?_
   refine AL.rp rfl rfl (rp_move rfl rfl) ?_
   (first | (refine AL.rp rfl rfl (rp_field_ref Try.underlying27 rfl rfl rfl inf25 (by decide) rfl) ?_) | (refine AL.rp rfl rfl (rp_field_ad Try.underlying27 rfl rfl rfl inf25 (by decide) rfl) ?_))
   (first | (refine AL.rd rfl rfl (rd_load_ref Try.underlying25 rfl rfl rfl rfl rfl rfl) ?_) | (refine AL.rd rfl rfl (rd_load_ad Try.underlying25 rfl rfl rfl rfl) ?_) | (refine AL.rd rfl rfl (rd_load_map Try.underlying25 rfl rfl rfl rfl rfl rfl (by assumption)) ?_) | (refine AL.rd rfl rfl (rd_load_flat Try.underlying25 rfl rfl rfl rfl rfl rfl (fun _ => rfl) (by assumption) rfl) ?_))
   (first | (refine AL.rp rfl rfl (rp_len_map Try.underlying25 rfl rfl (by assumption)) ?_) | (refine AL.rp rfl rfl (rp_len_own Try.underlying25 rfl rfl) ?_) | (refine AL.rp rfl rfl (rp_len_sl Try.underlying25 rfl rfl) ?_) | (refine AL.rp rfl rfl (rp_len_nil Try.underlying25 rfl rfl) ?_) | (refine AL.rp rfl rfl (rp_len_str Try.underlying25 rfl rfl) ?_))
   (first | (refine AL.rp rfl rfl (rp_lssT rfl rfl rfl (by first | assumption | omega | (dsimp only; omega))) ?_) | (refine AL.rp rfl rfl (rp_lssF rfl rfl rfl (by first | assumption | omega | (dsimp only; omega))) ?_) | (refine AL.rp rfl rfl (rp_lss rfl rfl rfl) ?_))
   refine AL.nil ?_
   try simp only [thenS, S.put]
   refine AW.condF rfl ?_
   refine AW.exit ?_
   try simp only [thenS, inBlockS, ↓reduceIte, Nat.reduceEqDiff]
   refine AW.seq ?_
   refine AW.region ?_
   refine AL.rp rfl rfl (rp_assign rfl rfl) ?_
   refine AL.nil ?_
   try simp only [thenS, S.put]
   refine AW.ret ?_
   exact ⟨[_], ⟨rfl, trivial⟩, rfl, by simp [tupOf, V.pure, V.has]⟩
 ·have hR : runMay n ⟨fd, ms⟩ = false := by simp only [runMay, hf, decide_false, Bool.false_and]
  rw [hR]
  refine AW.seq ?_
  refine AW.region ?_
  refine AL.sm rfl (sm_box 2 rfl rfl rfl (by first | rfl | simp [S.clean, S.put, S.newObj, S.forget, V.has, V.hasL, junkIf, setL, V.cs, hasL_i, hasL_b, hasL_s, hasL_n, hasL_rep, hasL_flat, hasL_append, -List.map_set]) rfl) ?_
  refine AL.sm rfl (sm_box 3 rfl rfl rfl (by first | rfl | simp [S.clean, S.put, S.newObj, S.forget, V.has, V.hasL, junkIf, setL, V.cs, hasL_i, hasL_b, hasL_s, hasL_n, hasL_rep, hasL_flat, hasL_append, -List.map_set]) rfl) ?_
  refine AL.rp rfl rfl (rp_assign rfl rfl) ?_
  refine AL.nil ?_
  try simp only [thenS, S.put, S.newObj, setL, V.cs, List.length_cons, List.length_nil, List.take_succ_cons, List.take_zero, List.drop_succ_cons, List.drop_zero, List.drop_nil, List.nil_append, List.cons_append, List.append_nil, Nat.zero_add, Nat.reduceAdd, List.map_cons, List.map_nil, List.set_cons_zero, List.set_cons_succ, enum]
  refine AW.seq ?_
  refine AW.seq ?_
  refine AW.region ?_
  (first | (refine AL.rp rfl rfl (rp_field_ref Try.underlying27 rfl rfl rfl inf3 (by decide) rfl) ?_) | (refine AL.rp rfl rfl (rp_field_ad Try.underlying27 rfl rfl rfl inf3 (by decide) rfl) ?_))
  (first | (refine AL.rd rfl rfl (rd_load_ref Try.underlying3 rfl rfl rfl rfl rfl rfl) ?_) | (refine AL.rd rfl rfl (rd_load_ad Try.underlying3 rfl rfl rfl rfl) ?_) | (refine AL.rd rfl rfl (rd_load_map Try.underlying3 rfl rfl rfl rfl rfl rfl (by assumption)) ?_) | (refine AL.rd rfl rfl (rd_load_flat Try.underlying3 rfl rfl rfl rfl rfl rfl (fun _ => rfl) (by assumption) rfl) ?_))
  refine AL.call (post := ?pc103) rfl (sm_call (args := [_, _, _]) ?hc103 ⟨Try.func58, rfl, rfl, rfl, rfl⟩ rfl rfl rfl rfl) ?_
  case hc103 => first | (refine Fn.decT (am_In _ _ _) ?_; first | omega | (dsimp only; omega)) | (refine Fn.decF (am_In _ _ _) ?_; first | omega | (dsimp only; omega)) | exact am_In _ _ _
  rintro _ rfl -
  try dsimp only
  refine AL.rp rfl rfl (rp_not rfl rfl) ?_
  refine AL.nil ?_
  try simp only [thenS, S.put, S.newObj, setL, V.cs, List.length_cons, List.length_nil, List.take_succ_cons, List.take_zero, List.drop_succ_cons, List.drop_zero, List.drop_nil, List.nil_append, List.cons_append, List.append_nil, Nat.zero_add, Nat.reduceAdd, List.map_cons, List.map_nil, List.set_cons_zero, List.set_cons_succ]
  refine AW.condT rfl ?_
  refine AW.seq ?_
  refine AW.region ?_
  refine AL.rp rfl rfl (rp_assign rfl rfl) ?_
  refine AL.nil ?_
  try simp only [thenS, S.put]
  refine AW.ret ?_
  exact ⟨[_], ⟨rfl, trivial⟩, rfl, by simp [tupOf, V.pure, V.has]⟩
end Go.Proofs.Ytnpbdcjfealoeaa
