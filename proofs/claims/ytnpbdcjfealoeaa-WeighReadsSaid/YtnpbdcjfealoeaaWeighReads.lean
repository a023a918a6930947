/- The law WeighReads, for every input: the call returns true and what its arguments read as is as it was. No condition. -/
import Derived.Test.YtnpbdcjfealoeaaOpen
import Derived.Test.YtnpbdcjfealoeaaAmLaw
import Derived.Test.YtnpbdcjfealoeaaAmSame
import Derived.Test.YtnpbdcjfealoeaaAmCopy
import Derived.Test.YtnpbdcjfealoeaaAmWghR
namespace Go.Proofs.Ytnpbdcjfealoeaa
section
open Go.RowKit
set_option linter.unusedSimpArgs false
set_option linter.unusedVariables false
set_option maxRecDepth 100000 in
theorem am_WeighReads (m : Mach) (x : List Int) : Fn Try.prog 13 [mV m, .d (intsD x)] (fun v => v = .b true) := by
 have h1 := am_ReadsC m x
 have h2 := am_WeighedReadsC m x
 obtain ⟨a, e, hae⟩ := rdsV_tup m x
 rw [hae] at h1 h2
 clear hae
 obtain ⟨st, sts⟩ := m
 refine Fn.intro (n := 38) ⟨Try.func13, rfl, rfl, rfl, rfl⟩ (by simp [V.pure, V.has, V.hasL]) (by simp) fun w0 out => ?_
 refine AW.seq ?_
 refine AW.region ?_
 refine AL.sm rfl (sm_box 2 rfl rfl rfl (by first | rfl | simp [S.clean, S.put, S.newObj, S.forget, V.has, V.hasL, junkIf, setL, V.cs, hasL_i, hasL_b, hasL_s, hasL_n, hasL_rep, hasL_flat, hasL_append, -List.map_set]) rfl) ?_
 refine AL.rp rfl rfl (rp_assign rfl rfl) ?_
 refine AL.nil ?_
 try simp only [thenS, S.put, S.newObj, setL, V.cs, List.length_cons, List.length_nil, List.take_succ_cons, List.take_zero, List.drop_succ_cons, List.drop_zero, List.drop_nil, List.nil_append, List.cons_append, List.append_nil, Nat.zero_add, Nat.reduceAdd, List.map_cons, List.map_nil, List.set_cons_zero, List.set_cons_succ, enum]
 refine AW.seq ?_
 refine AW.region ?_
 (first | (refine AL.rd rfl rfl (rd_loads_ref Try.underlying24 rfl inf24 rfl rfl rfl rfl rfl rfl) ?_) | (refine AL.rd rfl rfl (rd_loads_ad Try.underlying24 rfl inf24 rfl rfl rfl rfl) ?_))
 refine AL.call (post := ?pc6) rfl (sm_call (args := [_]) ?hc6 ⟨Try.func17, rfl, rfl, rfl, rfl⟩ rfl rfl rfl rfl) ?_
 case hc6 => exact am_machine ⟨st, sts⟩
 rintro _ rfl -
 try dsimp only
 refine AL.sm rfl (sm_alloc (l := [.d (.p (.int .i64 0)), .d (.p (.slice none 0 0))]) 5 inf24 rfl (by first | rfl | simp [S.clean, S.put, S.newObj, S.forget, V.has, V.hasL, junkIf, setL, V.cs, hasL_i, hasL_b, hasL_s, hasL_n, hasL_rep, hasL_flat, hasL_append, -List.map_set]) rfl rfl) ?_
 refine AL.st rfl (st_store_any inf24 rfl rfl rfl rfl rfl rfl rfl rfl (by first | decide | (simp; done) | (simp; omega)) rfl) ?_
 refine AL.nil ?_
 try simp only [thenS, S.put, S.newObj, setL, V.cs, List.length_cons, List.length_nil, List.take_succ_cons, List.take_zero, List.drop_succ_cons, List.drop_zero, List.drop_nil, List.nil_append, List.cons_append, List.append_nil, Nat.zero_add, Nat.reduceAdd, List.map_cons, List.map_nil, List.set_cons_zero, List.set_cons_succ]
 refine AW.seq ?_
 refine AW.draw [(0, true), (1, true), (2, false), (3, false), (4, false), (5, true), (6, true), (7, false), (8, false)] (fun i => !([] : List Nat).contains i) 9 (by kernel_rfl) (by kernel_rfl) rfl (by kernel_rfl) ?_
 (first | (refine AD1.rd rfl rfl rfl (fun _ _ h => h) (rd_loads_ref Try.underlying24 rfl inf24 rfl rfl rfl rfl rfl rfl) ?_) | (refine AD1.rd rfl rfl rfl (fun _ _ h => h) (rd_loads_ad Try.underlying24 rfl inf24 rfl rfl rfl rfl) ?_))
 refine AD1.rp rfl rfl rfl (fun _ _ h => h) (rp_move rfl rfl) ?_
 refine AD1.go ?_
 refine AD2.call (post := ?pc7) rfl rfl (sm_call (args := [_]) ?hc7 ⟨Try.func24, rfl, rfl, rfl, rfl⟩ rfl rfl rfl rfl) ?_
 case hc7 => exact am_intsC x
 rintro _ rfl -
 try dsimp only
 refine AD2.call (post := ?pc8) rfl rfl (sm_call (args := [_, _]) ?hc8 ⟨Try.func41, rfl, rfl, rfl, rfl⟩ rfl rfl rfl rfl) ?_
 case hc8 => exact h1
 rintro _ rfl -
 try dsimp only
 refine AD2.rp1 rfl rfl rfl (rp_move rfl rfl) ?_
 refine AD2.rp rfl rfl rfl (fun _ _ h => h) (rp_extract rfl rfl rfl) ?_
 refine AD2.rp rfl rfl rfl (fun _ _ h => h) (rp_extract rfl rfl rfl) ?_
 refine AD2.rp1 rfl rfl rfl (rp_assign rfl rfl) ?_
 refine AD2.rp1 rfl rfl rfl (rp_assign rfl rfl) ?_
 refine AD2.nil ?_
 try simp only [thenS, S.put, S.newObj, setL, V.cs, List.length_cons, List.length_nil, List.take_succ_cons, List.take_zero, List.drop_succ_cons, List.drop_zero, List.drop_nil, List.nil_append, List.cons_append, List.append_nil, Nat.zero_add, Nat.reduceAdd, List.map_cons, List.map_nil, List.set_cons_zero, List.set_cons_succ]
 refine AW.seq ?_
 refine AW.region ?_
 (first | (refine AL.rd rfl rfl (rd_loads_ref Try.underlying24 rfl inf24 rfl rfl rfl rfl rfl rfl) ?_) | (refine AL.rd rfl rfl (rd_loads_ad Try.underlying24 rfl inf24 rfl rfl rfl rfl) ?_))
 refine AL.rp rfl rfl (rp_move rfl rfl) ?_
 refine AL.call (post := ?pc9) rfl (sm_call (args := [_, _]) ?hc9 ⟨Try.func42, rfl, rfl, rfl, rfl⟩ rfl rfl rfl rfl) ?_
 case hc9 => exact h2
 rintro _ rfl -
 try dsimp only
 refine AL.rp rfl rfl (rp_move rfl rfl) ?_
 refine AL.rp rfl rfl (rp_extract rfl rfl rfl) ?_
 refine AL.rp rfl rfl (rp_extract rfl rfl rfl) ?_
 refine AL.rp rfl rfl (rp_assign rfl rfl) ?_
 refine AL.rp rfl rfl (rp_assign rfl rfl) ?_
 refine AL.nil ?_
 try simp only [thenS, S.put, S.newObj, setL, V.cs, List.length_cons, List.length_nil, List.take_succ_cons, List.take_zero, List.drop_succ_cons, List.drop_zero, List.drop_nil, List.nil_append, List.cons_append, List.append_nil, Nat.zero_add, Nat.reduceAdd, List.map_cons, List.map_nil, List.set_cons_zero, List.set_cons_succ]
 refine AW.seq ?_
 refine AW.region ?_
 refine AL.rp rfl rfl (rp_move rfl rfl) ?_
 refine AL.rp rfl rfl (rp_move rfl rfl) ?_
 (first | (refine AL.rp rfl rfl (rp_eqlT rfl rfl rfl (by first | assumption | omega | (dsimp only; omega))) ?_) | (refine AL.rp rfl rfl (rp_eqlF rfl rfl rfl (by first | assumption | omega | (dsimp only; omega))) ?_) | (refine AL.rp rfl rfl (rp_eql rfl rfl rfl) ?_))
 refine AL.rp rfl rfl (rp_move rfl rfl) ?_
 (first | (refine AL.no rfl rfl rfl rfl ?_) | (refine AL.rpy rfl rfl rfl (rp_move rfl rfl) ?_))
 (first | (refine AL.no rfl rfl rfl rfl ?_) | (refine AL.rpy rfl rfl rfl (rp_move rfl rfl) ?_))
 (first | (refine AL.no rfl rfl rfl rfl ?_) | (refine AL.rpy rfl rfl rfl (rp_eqlT rfl rfl rfl (by first | assumption | omega | (dsimp only; omega))) ?_) | (refine AL.rpy rfl rfl rfl (rp_eqlF rfl rfl rfl (by first | assumption | omega | (dsimp only; omega))) ?_) | (refine AL.rpy rfl rfl rfl (rp_eql rfl rfl rfl) ?_))
 refine AL.rp rfl rfl (rp_pick rfl rfl rfl) ?_
 refine AL.rp rfl rfl (rp_move rfl rfl) ?_
 (first | (refine AL.no rfl rfl rfl rfl ?_) | (refine AL.rdy rfl rfl rfl (rd_loads_ref Try.underlying24 rfl inf24 rfl rfl rfl rfl rfl rfl) ?_) | (refine AL.rdy rfl rfl rfl (rd_loads_ad Try.underlying24 rfl inf24 rfl rfl rfl rfl) ?_))
 (first | (refine AL.no rfl rfl rfl rfl ?_) | (refine AL.rdy rfl rfl rfl (rd_loads_ref Try.underlying24 rfl inf24 rfl rfl rfl rfl rfl rfl) ?_) | (refine AL.rdy rfl rfl rfl (rd_loads_ad Try.underlying24 rfl inf24 rfl rfl rfl rfl) ?_))
 (first | (refine AL.no rfl rfl rfl rfl ?_) | (refine AL.cally (post := ?pc10) rfl rfl (sm_call (args := [_, _]) ?hc10 ⟨Try.func23, rfl, rfl, rfl, rfl⟩ rfl rfl rfl rfl) ?_; (case hc10 => (exact am_sameMachine ⟨st, sts⟩)); rintro _ rfl -; try dsimp only))
 refine AL.rp rfl rfl (rp_pick rfl rfl rfl) ?_
 refine AL.rp rfl rfl (rp_assign rfl rfl) ?_
 refine AL.nil ?_
 try simp only [thenS, S.put, S.newObj, setL, V.cs, List.length_cons, List.length_nil, List.take_succ_cons, List.take_zero, List.drop_succ_cons, List.drop_zero, List.drop_nil, List.nil_append, List.cons_append, List.append_nil, Nat.zero_add, Nat.reduceAdd, List.map_cons, List.map_nil, List.set_cons_zero, List.set_cons_succ]
 refine AW.ret ?_
 exact ⟨[_], ⟨rfl, trivial⟩, rfl, by simp [tupOf, V.pure, V.has]⟩
theorem law_WeighReads (v : Value) (m : Mach) (u : Value) (x : List Int) (w : World) (h : MachAt w v m) (h2 : IntsAt w u x) : Calls Try.prog 13 #[v, u] w fun e w' => e = .returned (.bool true) ∧ Below w.heap.size w w' :=
 Fn.law (am_WeighReads m x) (reps_cons (rep_mach h (fun _ => not_false)) (reps_cons (rep_ints h2 (fun _ => not_false)) reps_nil))
end
end Go.Proofs.Ytnpbdcjfealoeaa

namespace Go.Proofs.Ytnpbdcjfealoeaa.lawWeighReads
open Go.ChangeShapes Go.WideShapes Go.ChangeAt Go.RowKit
open Go.ChangeMaps (open_string shut_string)
set_option linter.unusedVariables false
set_option linter.unusedSimpArgs false

set_option maxRecDepth 100000 in
theorem lifted (os : Os) (started : os.Started) (H : Type) (enc : TypeId × Value → H) :
  ReturnsInHanded {} Try.checked os 13 .any (Rows.weighReadsSpec.pre6 enc Try.prog Try.f13 Rows.weighReadsRow.domain false) (Rows.weighReadsSpec.post enc Try.prog Try.f13 false true false false) := by
 refine returnsInHanded_of_change_sized (C := Try.checked) own started (by kernel_rfl) Try.func13
  (ChangeSpec.witness6 (enc := enc) (C := Try.checked) false ⟨#[], #[.agg #[.int .i64 0, .slice none 0 0], .slice none 0 0], []⟩ 8 (by kernel_rfl) (by kernel_rfl) (by kernel_rfl) (by kernel_rfl)) ?_
 intro W base args ds gs before hval0 hW hcnd hsz0 _
 have hval : ∀ (j : Nat) t v, Try.f13.params[j]? = some t → args[j]? = some v → Value.okWide Try.prog W .any base t v := hval0
 have hsz : (DataW.weightsEach Try.prog (Try.f13.params.toList ++ Rows.weighReadsSpec.plain.varTypes Try.prog) (ds ++ gs)).all (· ≤ reachBytes) = true := hsz0
 have hW' := hW
 obtain ⟨p, q, hA0, hV, rfl, hfz, hnd⟩ := hW
 have hA : DataW.TrodAll enc Try.prog W 0 (fun _ => true) true Try.f13.params.toList args.toList ds p := hA0
 rw [Try.params13] at hA hval hsz
 obtain ⟨v0, vs0, d0, ds0, p0, q0, hargs, rfl, rfl, h0, r0⟩ := trodAll_cons hA
 obtain ⟨v1, vs1, d1, ds1, p1, q1, rfl, rfl, rfl, h1, r1⟩ := trodAll_cons r0
 obtain ⟨rfl, rfl, rfl⟩ := trodAll_nil r1
 obtain rfl : args = #[v0, v1] := by cases args; simp_all
 obtain ⟨rfl, rfl⟩ := trodVars_none hV
 have k0 := h0
 have lt0 : ∀ x ∈ p0, x.block < W.heap.size := by obtain ⟨m, hm⟩ := k0; exact DataW.trod_lt m _ _ _ hm
 have k1 := h1
 have lt1 : ∀ x ∈ p1, x.block < W.heap.size := by obtain ⟨m, hm⟩ := k1; exact DataW.trod_lt m _ _ _ hm
 obtain ⟨m0, hm0⟩ := open_machine (hval 0 24 v0 rfl rfl) h0 (fits_arg hsz (j := 0) (t := 24) rfl rfl)
 obtain ⟨a1, len1, cap1, rfl⟩ := okWide_slice Try.underlying29 (hval 1 29 v1 rfl rfl)
 obtain ⟨l1, hl1⟩ : ∃ l, IntsAt W (.slice a1 len1 cap1) l := by
  obtain ⟨fuel, hf⟩ := h1
  exact open_ints' (by simpa [Value.cells] using hf) (fits_arg hsz (j := 1) (t := 29) rfl rfl)
 refine (law_WeighReads _ m0 _ l1 W hm0 hl1).mono fun e W' ⟨he, bel⟩ => ?_
 subst he
 exact ⟨_, rfl, _, _, _, [], _, [], hW', trodAll_mk1 (shut_bool Try.underlying4 _), (trodAll_cons_mk (Below.trod laidOut (by kernel_rfl) (of_decide_eq_true (by kernel_rfl)) k0 bel lt0) (trodAll_cons_mk (Below.trod laidOut (by kernel_rfl) (of_decide_eq_true (by kernel_rfl)) k1 bel lt1) trodAll_mk0)), rfl, bel.frame _, fun h => by cases h⟩

theorem over : Rows.weighReadsRow.holds Try.pinned (OpenSpec.ofChange Rows.weighReadsSpec) :=
 OpenClaim.holds_of_wide 13 Try.f13 rfl rfl rfl rfl rfl rfl rfl ⟨rfl, rfl, rfl, rfl, rfl⟩ rfl rfl rfl rfl rfl (by kernel_rfl) Try.func13 (by kernel_rfl)
  (of_decide_eq_true (by kernel_rfl)) (by unfold Func.isWrapper; rw [if_neg (of_decide_eq_false (by kernel_rfl))]; exact ⟨rfl, rfl⟩)
  (fun os started H enc _ => lifted os started H enc)

theorem proved : Rows.WeighReadsSaid := over
end Go.Proofs.Ytnpbdcjfealoeaa.lawWeighReads
