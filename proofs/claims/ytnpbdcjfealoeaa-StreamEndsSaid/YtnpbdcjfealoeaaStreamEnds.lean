/- The law StreamEnds, for every input: the call returns true and what its arguments read as is as it was. No condition. -/
import Derived.Test.YtnpbdcjfealoeaaOpen
import Derived.Test.YtnpbdcjfealoeaaAmLaw
import Derived.Test.YtnpbdcjfealoeaaAmSame
import Derived.Test.YtnpbdcjfealoeaaAmCopy
import Derived.Test.YtnpbdcjfealoeaaAmStrEnd
import Derived.Test.YtnpbdcjfealoeaaAmStrEnded
import Derived.Test.YtnpbdcjfealoeaaAmRuns
import Derived.Test.YtnpbdcjfealoeaaOpenRun
namespace Go.Proofs.Ytnpbdcjfealoeaa
section
open Go.RowKit
set_option linter.unusedSimpArgs false
set_option linter.unusedVariables false
set_option maxRecDepth 100000 in
theorem am_StreamEnds (m : Mach) (r : Rn) : Fn Try.prog 3 [mV m, rnV r] (fun v => v = .b true) := by
 obtain ⟨E, hE⟩ : ∃ E, endE m r = E := ⟨_, rfl⟩
 obtain ⟨O, hO⟩ : ∃ O, endO m r = O := ⟨_, rfl⟩
 obtain ⟨W, hW⟩ : ∃ W, endW m r = W := ⟨_, rfl⟩
 obtain ⟨st, sts⟩ := m
 obtain ⟨fd, ms⟩ := r
 refine Fn.intro (n := 47) ⟨Try.func3, rfl, rfl, rfl, rfl⟩ (by simp [V.pure, V.has, V.hasL]) (by simp) fun w0 out => ?_
 refine AW.seq ?_
 refine AW.region ?_
 refine AL.sm rfl (sm_box 2 rfl rfl rfl (by first | rfl | simp [S.clean, S.put, S.newObj, S.forget, V.has, V.hasL, junkIf, setL, V.cs, hasL_i, hasL_b, hasL_s, hasL_n, hasL_rep, hasL_flat, hasL_append, -List.map_set]) rfl) ?_
 refine AL.sm rfl (sm_box 3 rfl rfl rfl (by first | rfl | simp [S.clean, S.put, S.newObj, S.forget, V.has, V.hasL, junkIf, setL, V.cs, hasL_i, hasL_b, hasL_s, hasL_n, hasL_rep, hasL_flat, hasL_append, -List.map_set]) rfl) ?_
 refine AL.rp rfl rfl (rp_assign rfl rfl) ?_
 refine AL.nil ?_
 try simp only [thenS, S.put, S.newObj, setL, V.cs, List.length_cons, List.length_nil, List.take_succ_cons, List.take_zero, List.drop_succ_cons, List.drop_zero, List.drop_nil, List.nil_append, List.cons_append, List.append_nil, Nat.zero_add, Nat.reduceAdd, List.map_cons, List.map_nil, List.set_cons_zero, List.set_cons_succ, enum]
 refine AW.seq ?_
 refine AW.region ?_
 (first | (refine AL.rd rfl rfl (rd_loads_ref Try.underlying27 rfl inf27 rfl rfl rfl rfl rfl rfl) ?_) | (refine AL.rd rfl rfl (rd_loads_ad Try.underlying27 rfl inf27 rfl rfl rfl rfl) ?_))
 refine AL.call (post := ?pc0) rfl (sm_call (args := [_]) ?hc0 ⟨Try.func15, rfl, rfl, rfl, rfl⟩ rfl rfl rfl rfl) ?_
 case hc0 => exact am_runs ⟨fd, ms⟩
 rintro _ rfl -
 try dsimp only
 refine AL.sm rfl (sm_alloc (l := [.d (.p (.int .i64 0)), .d (.p (.slice none 0 0))]) 5 inf27 rfl (by first | rfl | simp [S.clean, S.put, S.newObj, S.forget, V.has, V.hasL, junkIf, setL, V.cs, hasL_i, hasL_b, hasL_s, hasL_n, hasL_rep, hasL_flat, hasL_append, -List.map_set]) rfl rfl) ?_
 refine AL.st rfl (st_store_any inf27 rfl rfl rfl rfl rfl rfl rfl rfl (by first | decide | (simp; done) | (simp; omega)) rfl) ?_
 refine AL.nil ?_
 try simp only [thenS, S.put, S.newObj, setL, V.cs, List.length_cons, List.length_nil, List.take_succ_cons, List.take_zero, List.drop_succ_cons, List.drop_zero, List.drop_nil, List.nil_append, List.cons_append, List.append_nil, Nat.zero_add, Nat.reduceAdd, List.map_cons, List.map_nil, List.set_cons_zero, List.set_cons_succ]
 refine AW.seq ?_
 refine AW.draw [(0, true), (2, true), (1, false), (3, false), (4, false), (5, true), (6, true), (7, true), (8, false), (9, false), (10, false)] (fun i => !([] : List Nat).contains i) 11 (by kernel_rfl) (by kernel_rfl) rfl (by kernel_rfl) ?_
 (first | (refine AD1.rd rfl rfl rfl (fun _ _ h => h) (rd_loads_ref Try.underlying24 rfl inf24 rfl rfl rfl rfl rfl rfl) ?_) | (refine AD1.rd rfl rfl rfl (fun _ _ h => h) (rd_loads_ad Try.underlying24 rfl inf24 rfl rfl rfl rfl) ?_))
 (first | (refine AD1.rd rfl rfl rfl (fun _ _ h => h) (rd_loads_ref Try.underlying27 rfl inf27 rfl rfl rfl rfl rfl rfl) ?_) | (refine AD1.rd rfl rfl rfl (fun _ _ h => h) (rd_loads_ad Try.underlying27 rfl inf27 rfl rfl rfl rfl) ?_))
 refine AD1.go ?_
 refine AD2.call (post := ?pc1) rfl rfl (sm_call (args := [_]) ?hc1 ⟨Try.func17, rfl, rfl, rfl, rfl⟩ rfl rfl rfl rfl) ?_
 case hc1 => exact am_machine ⟨st, sts⟩
 rintro _ rfl -
 try dsimp only
 refine AD2.call (post := ?pc2) rfl rfl (sm_call (args := [_, _]) ?hc2 ⟨Try.func16, rfl, rfl, rfl, rfl⟩ rfl rfl rfl rfl) ?_
 case hc2 => exact Fn.eqv (am_StreamEnd ⟨st, sts⟩ ⟨fd, ms⟩) (by rw [hE, hO, hW])
 rintro _ rfl -
 try dsimp only
 refine AD2.rp1 rfl rfl rfl (rp_move rfl rfl) ?_
 refine AD2.rp rfl rfl rfl (fun _ _ h => h) (rp_extract rfl rfl rfl) ?_
 refine AD2.rp rfl rfl rfl (fun _ _ h => h) (rp_extract rfl rfl rfl) ?_
 refine AD2.rp rfl rfl rfl (fun _ _ h => h) (rp_extract rfl rfl rfl) ?_
 refine AD2.rp1 rfl rfl rfl (rp_assign rfl rfl) ?_
 refine AD2.rp1 rfl rfl rfl (rp_assign rfl rfl) ?_
 refine AD2.rp1 rfl rfl rfl (rp_assign rfl rfl) ?_
 refine AD2.nil ?_
 try simp only [thenS, S.put, S.newObj, setL, V.cs, List.length_cons, List.length_nil, List.take_succ_cons, List.take_zero, List.drop_succ_cons, List.drop_zero, List.drop_nil, List.nil_append, List.cons_append, List.append_nil, Nat.zero_add, Nat.reduceAdd, List.map_cons, List.map_nil, List.set_cons_zero, List.set_cons_succ]
 refine AW.seq ?_
 refine AW.region ?_
 (first | (refine AL.rd rfl rfl (rd_loads_ref Try.underlying24 rfl inf24 rfl rfl rfl rfl rfl rfl) ?_) | (refine AL.rd rfl rfl (rd_loads_ad Try.underlying24 rfl inf24 rfl rfl rfl rfl) ?_))
 (first | (refine AL.rd rfl rfl (rd_loads_ref Try.underlying27 rfl inf27 rfl rfl rfl rfl rfl rfl) ?_) | (refine AL.rd rfl rfl (rd_loads_ad Try.underlying27 rfl inf27 rfl rfl rfl rfl) ?_))
 refine AL.call (post := ?pc3) rfl (sm_call (args := [_, _]) ?hc3 ⟨Try.func18, rfl, rfl, rfl, rfl⟩ rfl rfl rfl rfl) ?_
 case hc3 => exact Fn.eqv (am_Ended ⟨st, sts⟩ ⟨fd, ms⟩) (by rw [hE, hO, hW])
 rintro _ rfl -
 try dsimp only
 refine AL.rp rfl rfl (rp_move rfl rfl) ?_
 refine AL.rp rfl rfl (rp_extract rfl rfl rfl) ?_
 refine AL.rp rfl rfl (rp_extract rfl rfl rfl) ?_
 refine AL.rp rfl rfl (rp_extract rfl rfl rfl) ?_
 refine AL.rp rfl rfl (rp_assign rfl rfl) ?_
 refine AL.rp rfl rfl (rp_assign rfl rfl) ?_
 refine AL.rp rfl rfl (rp_assign rfl rfl) ?_
 refine AL.nil ?_
 try simp only [thenS, S.put, S.newObj, setL, V.cs, List.length_cons, List.length_nil, List.take_succ_cons, List.take_zero, List.drop_succ_cons, List.drop_zero, List.drop_nil, List.nil_append, List.cons_append, List.append_nil, Nat.zero_add, Nat.reduceAdd, List.map_cons, List.map_nil, List.set_cons_zero, List.set_cons_succ]
 refine AW.seq ?_
 refine AW.region ?_
 refine AL.rp rfl rfl (rp_move rfl rfl) ?_
 refine AL.rp rfl rfl (rp_move rfl rfl) ?_
 (first | (refine AL.rp rfl rfl (rp_eqlT rfl rfl rfl (by first | assumption | omega | (dsimp only; omega))) ?_) | (refine AL.rp rfl rfl (rp_eqlF rfl rfl rfl (by first | assumption | omega | (dsimp only; omega))) ?_) | (refine AL.rp rfl rfl (rp_eql rfl rfl rfl) ?_))
 refine AL.rp rfl rfl (rp_move rfl rfl) ?_
 (first | (refine AL.no rfl rfl rfl rfl ?_) | (refine AL.rpy rfl rfl rfl (rp_move rfl rfl) ?_))
 (first | (refine AL.no rfl rfl rfl rfl ?_) | (refine AL.rpy rfl rfl rfl (rp_move rfl rfl) ?_))
 (first | (refine AL.no rfl rfl rfl rfl ?_) | (refine AL.rpy rfl rfl rfl (rp_eqlT rfl rfl rfl (by first | assumption | omega | (dsimp only; omega))) ?_) | (refine AL.rpy rfl rfl rfl (rp_eqlF rfl rfl rfl (by first | assumption | omega | (dsimp only; omega))) ?_) | (refine AL.rpy rfl rfl rfl (rp_eql rfl rfl rfl) ?_))
 refine AL.rp rfl rfl (rp_pick rfl rfl rfl) ?_
 refine AL.rp rfl rfl (rp_move rfl rfl) ?_
 (first | (refine AL.no rfl rfl rfl rfl ?_) | (refine AL.rpy rfl rfl rfl (rp_move rfl rfl) ?_))
 (first | (refine AL.no rfl rfl rfl rfl ?_) | (refine AL.rpy rfl rfl rfl (rp_move rfl rfl) ?_))
 (first | (refine AL.no rfl rfl rfl rfl ?_) | (refine AL.cally (post := ?pc4) rfl rfl (sm_call (args := [_, _]) ?hc4 ⟨Try.func19, rfl, rfl, rfl, rfl⟩ rfl rfl rfl rfl) ?_; (case hc4 => (exact am_sameInts O)); rintro _ rfl -; try dsimp only))
 refine AL.rp rfl rfl (rp_pick rfl rfl rfl) ?_
 refine AL.rp rfl rfl (rp_move rfl rfl) ?_
 (first | (refine AL.no rfl rfl rfl rfl ?_) | (refine AL.rdy rfl rfl rfl (rd_loads_ref Try.underlying27 rfl inf27 rfl rfl rfl rfl rfl rfl) ?_) | (refine AL.rdy rfl rfl rfl (rd_loads_ad Try.underlying27 rfl inf27 rfl rfl rfl rfl) ?_))
 (first | (refine AL.no rfl rfl rfl rfl ?_) | (refine AL.rdy rfl rfl rfl (rd_loads_ref Try.underlying27 rfl inf27 rfl rfl rfl rfl rfl rfl) ?_) | (refine AL.rdy rfl rfl rfl (rd_loads_ad Try.underlying27 rfl inf27 rfl rfl rfl rfl) ?_))
 (first | (refine AL.no rfl rfl rfl rfl ?_) | (refine AL.cally (post := ?pc5) rfl rfl (sm_call (args := [_, _]) ?hc5 ⟨Try.func20, rfl, rfl, rfl, rfl⟩ rfl rfl rfl rfl) ?_; (case hc5 => (exact am_sameRun ⟨fd, ms⟩)); rintro _ rfl -; try dsimp only))
 refine AL.rp rfl rfl (rp_pick rfl rfl rfl) ?_
 refine AL.rp rfl rfl (rp_assign rfl rfl) ?_
 refine AL.nil ?_
 try simp only [thenS, S.put, S.newObj, setL, V.cs, List.length_cons, List.length_nil, List.take_succ_cons, List.take_zero, List.drop_succ_cons, List.drop_zero, List.drop_nil, List.nil_append, List.cons_append, List.append_nil, Nat.zero_add, Nat.reduceAdd, List.map_cons, List.map_nil, List.set_cons_zero, List.set_cons_succ]
 refine AW.ret ?_
 exact ⟨[_], ⟨rfl, trivial⟩, rfl, by simp [tupOf, V.pure, V.has]⟩
theorem law_StreamEnds (v : Value) (m : Mach) (u : Value) (r : Rn) (w : World) (h : MachAt w v m) (h2 : RunAt w u r) : Calls Try.prog 3 #[v, u] w fun e w' => e = .returned (.bool true) ∧ Below w.heap.size w w' :=
 Fn.law (am_StreamEnds m r) (reps_cons (rep_mach h (fun _ => not_false)) (reps_cons (rep_run h2 (fun _ => not_false)) reps_nil))
end
end Go.Proofs.Ytnpbdcjfealoeaa

namespace Go.Proofs.Ytnpbdcjfealoeaa.lawStreamEnds
open Go.ChangeShapes Go.WideShapes Go.ChangeAt Go.RowKit
open Go.ChangeMaps (open_string shut_string)
set_option linter.unusedVariables false
set_option linter.unusedSimpArgs false

set_option maxRecDepth 100000 in
theorem lifted (os : Os) (started : os.Started) (H : Type) (enc : TypeId × Value → H) :
  ReturnsInHanded {} Try.checked os 3 .any (Rows.streamEndsSpec.pre6 enc Try.prog Try.f3 Rows.streamEndsRow.domain false) (Rows.streamEndsSpec.post enc Try.prog Try.f3 false true false false) := by
 refine returnsInHanded_of_change_sized (C := Try.checked) own started (by kernel_rfl) Try.func3
  (ChangeSpec.witness6 (enc := enc) (C := Try.checked) false ⟨#[], #[.agg #[.int .i64 0, .slice none 0 0], .agg #[.int .i64 0, .slice none 0 0]], []⟩ 8 (by kernel_rfl) (by kernel_rfl) (by kernel_rfl) (by kernel_rfl)) ?_
 intro W base args ds gs before hval0 hW hcnd hsz0 _
 have hval : ∀ (j : Nat) t v, Try.f3.params[j]? = some t → args[j]? = some v → Value.okWide Try.prog W .any base t v := hval0
 have hsz : (DataW.weightsEach Try.prog (Try.f3.params.toList ++ Rows.streamEndsSpec.plain.varTypes Try.prog) (ds ++ gs)).all (· ≤ reachBytes) = true := hsz0
 have hW' := hW
 obtain ⟨p, q, hA0, hV, rfl, hfz, hnd⟩ := hW
 have hA : DataW.TrodAll enc Try.prog W 0 (fun _ => true) true Try.f3.params.toList args.toList ds p := hA0
 rw [Try.params3] at hA hval hsz
 obtain ⟨v0, vs0, d0, ds0, p0, q0, hargs, rfl, rfl, h0, r0⟩ := trodAll_cons hA
 obtain ⟨v1, vs1, d1, ds1, p1, q1, rfl, rfl, rfl, h1, r1⟩ := trodAll_cons r0
 obtain ⟨rfl, rfl, rfl⟩ := trodAll_nil r1
 obtain rfl : args = #[v0, v1] := by cases args; simp_all
 obtain ⟨rfl, rfl⟩ := trodVars_none hV
 have k0 := h0
 have lt0 : ∀ x ∈ p0, x.block < W.heap.size := by obtain ⟨m, hm⟩ := k0; exact DataW.trod_lt m _ _ _ hm
 have k1 := h1
 have lt1 : ∀ x ∈ p1, x.block < W.heap.size := by obtain ⟨m, hm⟩ := k1; exact DataW.trod_lt m _ _ _ hm
 obtain ⟨m0, hm0⟩ := open_machine (hval 0 24 v0 rfl rfl) h0 (fits_arg hsz (j := 0) (t := 24) rfl rfl)
 obtain ⟨m1, hm1⟩ := open_run (hval 1 27 v1 rfl rfl) h1 (fits_arg hsz (j := 1) (t := 27) rfl rfl)
 refine (law_StreamEnds _ m0 _ m1 W hm0 hm1).mono fun e W' ⟨he, bel⟩ => ?_
 subst he
 exact ⟨_, rfl, _, _, _, [], _, [], hW', trodAll_mk1 (shut_bool Try.underlying4 _), (trodAll_cons_mk (Below.trod laidOut (by kernel_rfl) (of_decide_eq_true (by kernel_rfl)) k0 bel lt0) (trodAll_cons_mk (Below.trod laidOut (by kernel_rfl) (of_decide_eq_true (by kernel_rfl)) k1 bel lt1) trodAll_mk0)), rfl, bel.frame _, fun h => by cases h⟩

theorem over : Rows.streamEndsRow.holds Try.pinned (OpenSpec.ofChange Rows.streamEndsSpec) :=
 OpenClaim.holds_of_wide 3 Try.f3 rfl rfl rfl rfl rfl rfl rfl ⟨rfl, rfl, rfl, rfl, rfl⟩ rfl rfl rfl rfl rfl (by kernel_rfl) Try.func3 (by kernel_rfl)
  (of_decide_eq_true (by kernel_rfl)) (by unfold Func.isWrapper; rw [if_neg (of_decide_eq_false (by kernel_rfl))]; exact ⟨rfl, rfl⟩)
  (fun os started H enc _ => lifted os started H enc)

theorem proved : Rows.StreamEndsSaid := over
end Go.Proofs.Ytnpbdcjfealoeaa.lawStreamEnds
