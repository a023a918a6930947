/- Part 9 of what the law ScriptReads rests on. -/
import Derived.Test.YtlgnjehfojogmaaDoorPkSc1
import Derived.Test.YtlgnjehfojogmaaDoorPkSc2
import Derived.Test.YtlgnjehfojogmaaDoorPkSc3
import Derived.Test.YtlgnjehfojogmaaDoorPkSc4
import Derived.Test.YtlgnjehfojogmaaDoorPkSc5
import Derived.Test.YtlgnjehfojogmaaDoorPkSc6
import Derived.Test.YtlgnjehfojogmaaDoorPkSc7
import Derived.Test.YtlgnjehfojogmaaDoorPkSc8
namespace Go.Proofs.YtlgnjehfojogmaaDoor
open Go.RowKit
set_option linter.unusedSimpArgs false
set_option linter.unusedVariables false
set_option maxRecDepth 100000

set_option maxHeartbeats 4000000 in
theorem am_StepShown2 (k : Nat) (xt xa xb : Int) (xn : ByteArray) (h1 : 1 ≤ k) (h2 : k ≤ 15) (hp : ptK k = 2) (S1 : ByteArray) (E1 : Int) (hS : stS ⟨k, xt, xa, xb, xn⟩ = S1) (hE : stE ⟨k, xt, xa, xb, xn⟩ = E1) : Fn Tryd.prog 28 [.agg [.i k, .i xt, .i xa, .i xb, .s xn]] (fun v => v = .tup [.s S1, .i E1]) := by
 have hws := wdK_size k (by omega)
 have hwp := wdK_pos k (by omega) h1
 have hwne : (wdK k).data.toList ≠ (⟨#[]⟩ : ByteArray).data.toList := by
  intro h
  have := congrArg List.length h
  rw [show (wdK k).data.toList.length = (wdK k).size from Array.length_toList] at this
  have h2 : (⟨#[]⟩ : ByteArray).data.toList.length = 0 := rfl
  omega
 have hsw := am_StepWord k 2 h1 h2 hp
 simp only [hasT, hasA, hasB, hasN, Nat.reduceBNe, Nat.reduceBEq, bne_self_eq_false, beq_self_eq_true, Bool.or_false, Bool.false_or, Bool.or_true, Bool.true_or, Bool.or_self] at hsw
 have hs32 : (⟨#[32]⟩ : ByteArray).size = 1 := rfl
 have hs10 : (⟨#[10]⟩ : ByteArray).size = 1 := rfl
 have hs0 : (⟨#[]⟩ : ByteArray).size = 0 := rfl
 have hkt : (⟨k, xt, xa, xb, xn⟩ : Stp).k.toNat = k := by simp
 by_cases ht : 0 ≤ xt ∧ xt ≤ 25
 rotate_left
 ·have hE' : stE ⟨k, xt, xa, xb, xn⟩ = 2 := stE_r (k := k) (p := 2) rfl h1 h2 hp (by simp [badR, hasT, hasA, hasB, rgOk]; omega)
  rw [hE'] at hE
  obtain rfl : S1 = ⟨#[]⟩ := by rw [← hS]; unfold stS; rw [hE', if_neg (by decide)]
  subst hE
  by_cases hneg : xt < 0
  ·refine Fn.intro (n := 111) ⟨Tryd.func28, rfl, rfl, rfl, rfl⟩ (by simp [V.pure, V.has, V.hasL]) (by simp) fun w0 out => ?_
   refine AW.seq ?_
   refine AW.region ?_
   refine AL.sm rfl (sm_box 1 rfl rfl rfl (by first | rfl | simp [S.clean, S.put, S.newObj, S.forget, V.has, V.hasL, junkIf, setL, V.cs, hasL_i, hasL_d, hasL_b, hasL_s, hasL_n, hasL_rep, hasL_flat, hasL_append, -List.map_set]) rfl) ?_
   refine AL.rp rfl rfl (rp_assign rfl rfl) ?_
   refine AL.rp rfl rfl (rp_assign rfl rfl) ?_
   refine AL.nil ?_
   try simp only [thenS, S.put, S.newObj, setL, V.cs, List.length_cons, List.length_nil, List.take_succ_cons, List.take_zero, List.drop_succ_cons, List.drop_zero, List.drop_nil, List.nil_append, List.cons_append, List.append_nil, Nat.zero_add, Nat.reduceAdd, List.map_cons, List.map_nil, List.set_cons_zero, List.set_cons_succ, enum]
   refine AW.seq ?_
   refine AW.region ?_
   (first | (refine AL.rp rfl rfl (rp_field_ref Tryd.underlying60 rfl rfl rfl inf3 (by decide) rfl) ?_) | (refine AL.rp rfl rfl (rp_field_ad Tryd.underlying60 rfl rfl rfl inf3 (by decide) rfl) ?_))
   (first | (refine AL.rd rfl rfl (rd_load_ref Tryd.underlying3 rfl rfl rfl rfl rfl rfl) ?_) | (refine AL.rd rfl rfl (rd_load_ad Tryd.underlying3 rfl rfl rfl rfl) ?_) | (refine AL.rd rfl rfl (rd_load_map Tryd.underlying3 rfl rfl rfl rfl rfl rfl (by assumption)) ?_) | (refine AL.rd rfl rfl (rd_load_flat Tryd.underlying3 rfl rfl rfl rfl rfl rfl (fun _ => rfl) (by assumption) rfl) ?_))
   refine AL.call (post := ?pc89) rfl (sm_call (args := [_]) ?hc89 ⟨Tryd.func52, rfl, rfl, rfl, rfl⟩ rfl rfl rfl rfl) ?_
   case hc89 => exact hsw
   rintro _ rfl -
   try dsimp only
   refine AL.rp rfl rfl (rp_move rfl rfl) ?_
   refine AL.rp rfl rfl (rp_extract rfl rfl rfl) ?_
   refine AL.rp rfl rfl (rp_extract rfl rfl rfl) ?_
   refine AL.rp rfl rfl (rp_extract rfl rfl rfl) ?_
   refine AL.rp rfl rfl (rp_extract rfl rfl rfl) ?_
   refine AL.rp rfl rfl (rp_extract rfl rfl rfl) ?_
   refine AL.rp rfl rfl (rp_assign rfl rfl) ?_
   refine AL.rp rfl rfl (rp_assign rfl rfl) ?_
   refine AL.rp rfl rfl (rp_assign rfl rfl) ?_
   refine AL.rp rfl rfl (rp_assign rfl rfl) ?_
   refine AL.rp rfl rfl (rp_assign rfl rfl) ?_
   refine AL.nil ?_
   try simp only [thenS, S.put, S.newObj, setL, V.cs, List.length_cons, List.length_nil, List.take_succ_cons, List.take_zero, List.drop_succ_cons, List.drop_zero, List.drop_nil, List.nil_append, List.cons_append, List.append_nil, Nat.zero_add, Nat.reduceAdd, List.map_cons, List.map_nil, List.set_cons_zero, List.set_cons_succ]
   refine AW.seq ?_
   refine AW.seq ?_
   refine AW.region ?_
   refine AL.rp rfl rfl (rp_move rfl rfl) ?_
   (first | (refine AL.rp rfl rfl (rp_eqlsT rfl rfl rfl (by assumption)) ?_) | (refine AL.rp rfl rfl (rp_eqlsF rfl rfl rfl (by assumption)) ?_) | (refine AL.rp rfl rfl (rp_eqls rfl rfl rfl) ?_))
   refine AL.nil ?_
   try simp only [thenS, S.put]
   refine AW.condF rfl ?_
   refine AW.skip ?_
   try simp only [thenS]
   refine AW.seq ?_
   refine AW.seq ?_
   refine AW.region ?_
   refine AL.rp rfl rfl (rp_move rfl rfl) ?_
   refine AL.rp rfl rfl (rp_move rfl rfl) ?_
   (first | (refine AL.noV rfl rfl rfl rfl ?_) | (refine AL.noU rfl ⟨_, rfl, rfl⟩ rfl ?_) | (refine AL.rpy rfl rfl rfl (rp_field_ref Tryd.underlying60 rfl rfl rfl inf3 (by decide) rfl) ?_) | (refine AL.rpy rfl rfl rfl (rp_field_ad Tryd.underlying60 rfl rfl rfl inf3 (by decide) rfl) ?_))
   (first | (refine AL.noV rfl rfl rfl rfl ?_) | (refine AL.noU rfl ⟨_, rfl, rfl⟩ rfl ?_) | (refine AL.rdy rfl rfl rfl (rd_load_ref Tryd.underlying3 rfl rfl rfl rfl rfl rfl) ?_) | (refine AL.rdy rfl rfl rfl (rd_load_ad Tryd.underlying3 rfl rfl rfl rfl) ?_) | (refine AL.rdy rfl rfl rfl (rd_load_map Tryd.underlying3 rfl rfl rfl rfl rfl rfl (by assumption)) ?_) | (refine AL.rdy rfl rfl rfl (rd_load_flat Tryd.underlying3 rfl rfl rfl rfl rfl rfl (fun _ => rfl) (by assumption) rfl) ?_))
   (first | (refine AL.no rfl rfl rfl rfl ?_) | (refine AL.noU rfl ⟨_, rfl, rfl⟩ rfl ?_) | (refine AL.cally (post := ?pc90) rfl rfl (sm_call (args := [_, _, _]) ?hc90 ⟨Tryd.func47, rfl, rfl, rfl, rfl⟩ rfl rfl rfl rfl) ?_; (case hc90 => (first | (refine Fn.decT (am_In _ _ _) ?_; omega) | (refine Fn.decF (am_In _ _ _) ?_; omega) | exact am_In _ _ _)); rintro _ rfl -; try dsimp only))
   (first | (refine AL.noV rfl rfl rfl rfl ?_) | (refine AL.noU rfl ⟨_, rfl, rfl⟩ rfl ?_) | (refine AL.rpy rfl rfl rfl (rp_not rfl rfl) ?_))
   refine AL.rp rfl rfl (rp_pick rfl rfl rfl) ?_
   refine AL.rp rfl rfl (rp_move rfl rfl) ?_
   (first | (refine AL.noV rfl rfl rfl rfl ?_) | (refine AL.noU rfl ⟨_, rfl, rfl⟩ rfl ?_) | (refine AL.rpy rfl rfl rfl (rp_move rfl rfl) ?_))
   (first | (refine AL.noV rfl rfl rfl rfl ?_) | (refine AL.noU rfl ⟨_, rfl, rfl⟩ rfl ?_) | (refine AL.rpy rfl rfl rfl (rp_move rfl rfl) ?_))
   (first | (refine AL.noV rfl rfl rfl rfl ?_) | (refine AL.noU rfl ⟨_, rfl, rfl⟩ rfl ?_) | (refine AL.rpy rfl rfl rfl (rp_field_ref Tryd.underlying60 rfl rfl rfl inf3 (by decide) rfl) ?_) | (refine AL.rpy rfl rfl rfl (rp_field_ad Tryd.underlying60 rfl rfl rfl inf3 (by decide) rfl) ?_))
   (first | (refine AL.noV rfl rfl rfl rfl ?_) | (refine AL.noU rfl ⟨_, rfl, rfl⟩ rfl ?_) | (refine AL.rdy rfl rfl rfl (rd_load_ref Tryd.underlying3 rfl rfl rfl rfl rfl rfl) ?_) | (refine AL.rdy rfl rfl rfl (rd_load_ad Tryd.underlying3 rfl rfl rfl rfl) ?_) | (refine AL.rdy rfl rfl rfl (rd_load_map Tryd.underlying3 rfl rfl rfl rfl rfl rfl (by assumption)) ?_) | (refine AL.rdy rfl rfl rfl (rd_load_flat Tryd.underlying3 rfl rfl rfl rfl rfl rfl (fun _ => rfl) (by assumption) rfl) ?_))
   (first | (refine AL.no rfl rfl rfl rfl ?_) | (refine AL.noU rfl ⟨_, rfl, rfl⟩ rfl ?_) | (refine AL.cally (post := ?pc91) rfl rfl (sm_call (args := [_, _, _]) ?hc91 ⟨Tryd.func47, rfl, rfl, rfl, rfl⟩ rfl rfl rfl rfl) ?_; (case hc91 => (first | (refine Fn.decT (am_In _ _ _) ?_; omega) | (refine Fn.decF (am_In _ _ _) ?_; omega) | exact am_In _ _ _)); rintro _ rfl -; try dsimp only))
   (first | (refine AL.noV rfl rfl rfl rfl ?_) | (refine AL.noU rfl ⟨_, rfl, rfl⟩ rfl ?_) | (refine AL.rpy rfl rfl rfl (rp_not rfl rfl) ?_))
   (first | (refine AL.noV rfl rfl rfl rfl ?_) | (refine AL.noU rfl ⟨_, rfl, rfl⟩ rfl ?_) | (refine AL.rpy rfl rfl rfl (rp_pick rfl rfl rfl) ?_))
   refine AL.rp rfl rfl (rp_pick rfl rfl rfl) ?_
   refine AL.rp rfl rfl (rp_move rfl rfl) ?_
   (first | (refine AL.noV rfl rfl rfl rfl ?_) | (refine AL.noU rfl ⟨_, rfl, rfl⟩ rfl ?_) | (refine AL.rpy rfl rfl rfl (rp_move rfl rfl) ?_))
   (first | (refine AL.noV rfl rfl rfl rfl ?_) | (refine AL.noU rfl ⟨_, rfl, rfl⟩ rfl ?_) | (refine AL.rpy rfl rfl rfl (rp_move rfl rfl) ?_))
   (first | (refine AL.noV rfl rfl rfl rfl ?_) | (refine AL.noU rfl ⟨_, rfl, rfl⟩ rfl ?_) | (refine AL.rpy rfl rfl rfl (rp_field_ref Tryd.underlying60 rfl rfl rfl inf3 (by decide) rfl) ?_) | (refine AL.rpy rfl rfl rfl (rp_field_ad Tryd.underlying60 rfl rfl rfl inf3 (by decide) rfl) ?_))
   (first | (refine AL.noV rfl rfl rfl rfl ?_) | (refine AL.noU rfl ⟨_, rfl, rfl⟩ rfl ?_) | (refine AL.rdy rfl rfl rfl (rd_load_ref Tryd.underlying3 rfl rfl rfl rfl rfl rfl) ?_) | (refine AL.rdy rfl rfl rfl (rd_load_ad Tryd.underlying3 rfl rfl rfl rfl) ?_) | (refine AL.rdy rfl rfl rfl (rd_load_map Tryd.underlying3 rfl rfl rfl rfl rfl rfl (by assumption)) ?_) | (refine AL.rdy rfl rfl rfl (rd_load_flat Tryd.underlying3 rfl rfl rfl rfl rfl rfl (fun _ => rfl) (by assumption) rfl) ?_))
   (first | (refine AL.no rfl rfl rfl rfl ?_) | (refine AL.noU rfl ⟨_, rfl, rfl⟩ rfl ?_) | (refine AL.cally (post := ?pc92) rfl rfl (sm_call (args := [_, _, _]) ?hc92 ⟨Tryd.func47, rfl, rfl, rfl, rfl⟩ rfl rfl rfl rfl) ?_; (case hc92 => (first | (refine Fn.decT (am_In _ _ _) ?_; omega) | (refine Fn.decF (am_In _ _ _) ?_; omega) | exact am_In _ _ _)); rintro _ rfl -; try dsimp only))
   (first | (refine AL.noV rfl rfl rfl rfl ?_) | (refine AL.noU rfl ⟨_, rfl, rfl⟩ rfl ?_) | (refine AL.rpy rfl rfl rfl (rp_not rfl rfl) ?_))
   (first | (refine AL.noV rfl rfl rfl rfl ?_) | (refine AL.noU rfl ⟨_, rfl, rfl⟩ rfl ?_) | (refine AL.rpy rfl rfl rfl (rp_pick rfl rfl rfl) ?_))
   refine AL.rp rfl rfl (rp_pick rfl rfl rfl) ?_
   refine AL.nil ?_
   try simp only [thenS, S.put, S.newObj, setL, V.cs, List.length_cons, List.length_nil, List.take_succ_cons, List.take_zero, List.drop_succ_cons, List.drop_zero, List.drop_nil, List.nil_append, List.cons_append, List.append_nil, Nat.zero_add, Nat.reduceAdd, List.map_cons, List.map_nil, List.set_cons_zero, List.set_cons_succ]
   refine AW.condT rfl ?_
   refine AW.seq ?_
   refine AW.region ?_
   refine AL.rp rfl rfl (rp_assign rfl rfl) ?_
   refine AL.rp rfl rfl (rp_assign rfl rfl) ?_
   refine AL.nil ?_
   try simp only [thenS, S.put]
   refine AW.ret ?_
   exact ⟨[_, _], ⟨rfl, rfl, trivial⟩, rfl, by simp [tupOf, V.pure, V.has, V.hasL]⟩
  ·have hbig : 25 < xt := by omega
   refine Fn.intro (n := 111) ⟨Tryd.func28, rfl, rfl, rfl, rfl⟩ (by simp [V.pure, V.has, V.hasL]) (by simp) fun w0 out => ?_
   refine AW.seq ?_
   refine AW.region ?_
   refine AL.sm rfl (sm_box 1 rfl rfl rfl (by first | rfl | simp [S.clean, S.put, S.newObj, S.forget, V.has, V.hasL, junkIf, setL, V.cs, hasL_i, hasL_d, hasL_b, hasL_s, hasL_n, hasL_rep, hasL_flat, hasL_append, -List.map_set]) rfl) ?_
   refine AL.rp rfl rfl (rp_assign rfl rfl) ?_
   refine AL.rp rfl rfl (rp_assign rfl rfl) ?_
   refine AL.nil ?_
   try simp only [thenS, S.put, S.newObj, setL, V.cs, List.length_cons, List.length_nil, List.take_succ_cons, List.take_zero, List.drop_succ_cons, List.drop_zero, List.drop_nil, List.nil_append, List.cons_append, List.append_nil, Nat.zero_add, Nat.reduceAdd, List.map_cons, List.map_nil, List.set_cons_zero, List.set_cons_succ, enum]
   refine AW.seq ?_
   refine AW.region ?_
   (first | (refine AL.rp rfl rfl (rp_field_ref Tryd.underlying60 rfl rfl rfl inf3 (by decide) rfl) ?_) | (refine AL.rp rfl rfl (rp_field_ad Tryd.underlying60 rfl rfl rfl inf3 (by decide) rfl) ?_))
   (first | (refine AL.rd rfl rfl (rd_load_ref Tryd.underlying3 rfl rfl rfl rfl rfl rfl) ?_) | (refine AL.rd rfl rfl (rd_load_ad Tryd.underlying3 rfl rfl rfl rfl) ?_) | (refine AL.rd rfl rfl (rd_load_map Tryd.underlying3 rfl rfl rfl rfl rfl rfl (by assumption)) ?_) | (refine AL.rd rfl rfl (rd_load_flat Tryd.underlying3 rfl rfl rfl rfl rfl rfl (fun _ => rfl) (by assumption) rfl) ?_))
   refine AL.call (post := ?pc93) rfl (sm_call (args := [_]) ?hc93 ⟨Tryd.func52, rfl, rfl, rfl, rfl⟩ rfl rfl rfl rfl) ?_
   case hc93 => exact hsw
   rintro _ rfl -
   try dsimp only
   refine AL.rp rfl rfl (rp_move rfl rfl) ?_
   refine AL.rp rfl rfl (rp_extract rfl rfl rfl) ?_
   refine AL.rp rfl rfl (rp_extract rfl rfl rfl) ?_
   refine AL.rp rfl rfl (rp_extract rfl rfl rfl) ?_
   refine AL.rp rfl rfl (rp_extract rfl rfl rfl) ?_
   refine AL.rp rfl rfl (rp_extract rfl rfl rfl) ?_
   refine AL.rp rfl rfl (rp_assign rfl rfl) ?_
   refine AL.rp rfl rfl (rp_assign rfl rfl) ?_
   refine AL.rp rfl rfl (rp_assign rfl rfl) ?_
   refine AL.rp rfl rfl (rp_assign rfl rfl) ?_
   refine AL.rp rfl rfl (rp_assign rfl rfl) ?_
   refine AL.nil ?_
   try simp only [thenS, S.put, S.newObj, setL, V.cs, List.length_cons, List.length_nil, List.take_succ_cons, List.take_zero, List.drop_succ_cons, List.drop_zero, List.drop_nil, List.nil_append, List.cons_append, List.append_nil, Nat.zero_add, Nat.reduceAdd, List.map_cons, List.map_nil, List.set_cons_zero, List.set_cons_succ]
   refine AW.seq ?_
   refine AW.seq ?_
   refine AW.region ?_
   refine AL.rp rfl rfl (rp_move rfl rfl) ?_
   (first | (refine AL.rp rfl rfl (rp_eqlsT rfl rfl rfl (by assumption)) ?_) | (refine AL.rp rfl rfl (rp_eqlsF rfl rfl rfl (by assumption)) ?_) | (refine AL.rp rfl rfl (rp_eqls rfl rfl rfl) ?_))
   refine AL.nil ?_
   try simp only [thenS, S.put]
   refine AW.condF rfl ?_
   refine AW.skip ?_
   try simp only [thenS]
   refine AW.seq ?_
   refine AW.seq ?_
   refine AW.region ?_
   refine AL.rp rfl rfl (rp_move rfl rfl) ?_
   refine AL.rp rfl rfl (rp_move rfl rfl) ?_
   (first | (refine AL.noV rfl rfl rfl rfl ?_) | (refine AL.noU rfl ⟨_, rfl, rfl⟩ rfl ?_) | (refine AL.rpy rfl rfl rfl (rp_field_ref Tryd.underlying60 rfl rfl rfl inf3 (by decide) rfl) ?_) | (refine AL.rpy rfl rfl rfl (rp_field_ad Tryd.underlying60 rfl rfl rfl inf3 (by decide) rfl) ?_))
   (first | (refine AL.noV rfl rfl rfl rfl ?_) | (refine AL.noU rfl ⟨_, rfl, rfl⟩ rfl ?_) | (refine AL.rdy rfl rfl rfl (rd_load_ref Tryd.underlying3 rfl rfl rfl rfl rfl rfl) ?_) | (refine AL.rdy rfl rfl rfl (rd_load_ad Tryd.underlying3 rfl rfl rfl rfl) ?_) | (refine AL.rdy rfl rfl rfl (rd_load_map Tryd.underlying3 rfl rfl rfl rfl rfl rfl (by assumption)) ?_) | (refine AL.rdy rfl rfl rfl (rd_load_flat Tryd.underlying3 rfl rfl rfl rfl rfl rfl (fun _ => rfl) (by assumption) rfl) ?_))
   (first | (refine AL.no rfl rfl rfl rfl ?_) | (refine AL.noU rfl ⟨_, rfl, rfl⟩ rfl ?_) | (refine AL.cally (post := ?pc94) rfl rfl (sm_call (args := [_, _, _]) ?hc94 ⟨Tryd.func47, rfl, rfl, rfl, rfl⟩ rfl rfl rfl rfl) ?_; (case hc94 => (first | (refine Fn.decT (am_In _ _ _) ?_; omega) | (refine Fn.decF (am_In _ _ _) ?_; omega) | exact am_In _ _ _)); rintro _ rfl -; try dsimp only))
   (first | (refine AL.noV rfl rfl rfl rfl ?_) | (refine AL.noU rfl ⟨_, rfl, rfl⟩ rfl ?_) | (refine AL.rpy rfl rfl rfl (rp_not rfl rfl) ?_))
   refine AL.rp rfl rfl (rp_pick rfl rfl rfl) ?_
   refine AL.rp rfl rfl (rp_move rfl rfl) ?_
   (first | (refine AL.noV rfl rfl rfl rfl ?_) | (refine AL.noU rfl ⟨_, rfl, rfl⟩ rfl ?_) | (refine AL.rpy rfl rfl rfl (rp_move rfl rfl) ?_))
   (first | (refine AL.noV rfl rfl rfl rfl ?_) | (refine AL.noU rfl ⟨_, rfl, rfl⟩ rfl ?_) | (refine AL.rpy rfl rfl rfl (rp_move rfl rfl) ?_))
   (first | (refine AL.noV rfl rfl rfl rfl ?_) | (refine AL.noU rfl ⟨_, rfl, rfl⟩ rfl ?_) | (refine AL.rpy rfl rfl rfl (rp_field_ref Tryd.underlying60 rfl rfl rfl inf3 (by decide) rfl) ?_) | (refine AL.rpy rfl rfl rfl (rp_field_ad Tryd.underlying60 rfl rfl rfl inf3 (by decide) rfl) ?_))
   (first | (refine AL.noV rfl rfl rfl rfl ?_) | (refine AL.noU rfl ⟨_, rfl, rfl⟩ rfl ?_) | (refine AL.rdy rfl rfl rfl (rd_load_ref Tryd.underlying3 rfl rfl rfl rfl rfl rfl) ?_) | (refine AL.rdy rfl rfl rfl (rd_load_ad Tryd.underlying3 rfl rfl rfl rfl) ?_) | (refine AL.rdy rfl rfl rfl (rd_load_map Tryd.underlying3 rfl rfl rfl rfl rfl rfl (by assumption)) ?_) | (refine AL.rdy rfl rfl rfl (rd_load_flat Tryd.underlying3 rfl rfl rfl rfl rfl rfl (fun _ => rfl) (by assumption) rfl) ?_))
   (first | (refine AL.no rfl rfl rfl rfl ?_) | (refine AL.noU rfl ⟨_, rfl, rfl⟩ rfl ?_) | (refine AL.cally (post := ?pc95) rfl rfl (sm_call (args := [_, _, _]) ?hc95 ⟨Tryd.func47, rfl, rfl, rfl, rfl⟩ rfl rfl rfl rfl) ?_; (case hc95 => (first | (refine Fn.decT (am_In _ _ _) ?_; omega) | (refine Fn.decF (am_In _ _ _) ?_; omega) | exact am_In _ _ _)); rintro _ rfl -; try dsimp only))
   (first | (refine AL.noV rfl rfl rfl rfl ?_) | (refine AL.noU rfl ⟨_, rfl, rfl⟩ rfl ?_) | (refine AL.rpy rfl rfl rfl (rp_not rfl rfl) ?_))
   (first | (refine AL.noV rfl rfl rfl rfl ?_) | (refine AL.noU rfl ⟨_, rfl, rfl⟩ rfl ?_) | (refine AL.rpy rfl rfl rfl (rp_pick rfl rfl rfl) ?_))
   refine AL.rp rfl rfl (rp_pick rfl rfl rfl) ?_
   refine AL.rp rfl rfl (rp_move rfl rfl) ?_
   (first | (refine AL.noV rfl rfl rfl rfl ?_) | (refine AL.noU rfl ⟨_, rfl, rfl⟩ rfl ?_) | (refine AL.rpy rfl rfl rfl (rp_move rfl rfl) ?_))
   (first | (refine AL.noV rfl rfl rfl rfl ?_) | (refine AL.noU rfl ⟨_, rfl, rfl⟩ rfl ?_) | (refine AL.rpy rfl rfl rfl (rp_move rfl rfl) ?_))
   (first | (refine AL.noV rfl rfl rfl rfl ?_) | (refine AL.noU rfl ⟨_, rfl, rfl⟩ rfl ?_) | (refine AL.rpy rfl rfl rfl (rp_field_ref Tryd.underlying60 rfl rfl rfl inf3 (by decide) rfl) ?_) | (refine AL.rpy rfl rfl rfl (rp_field_ad Tryd.underlying60 rfl rfl rfl inf3 (by decide) rfl) ?_))
   (first | (refine AL.noV rfl rfl rfl rfl ?_) | (refine AL.noU rfl ⟨_, rfl, rfl⟩ rfl ?_) | (refine AL.rdy rfl rfl rfl (rd_load_ref Tryd.underlying3 rfl rfl rfl rfl rfl rfl) ?_) | (refine AL.rdy rfl rfl rfl (rd_load_ad Tryd.underlying3 rfl rfl rfl rfl) ?_) | (refine AL.rdy rfl rfl rfl (rd_load_map Tryd.underlying3 rfl rfl rfl rfl rfl rfl (by assumption)) ?_) | (refine AL.rdy rfl rfl rfl (rd_load_flat Tryd.underlying3 rfl rfl rfl rfl rfl rfl (fun _ => rfl) (by assumption) rfl) ?_))
   (first | (refine AL.no rfl rfl rfl rfl ?_) | (refine AL.noU rfl ⟨_, rfl, rfl⟩ rfl ?_) | (refine AL.cally (post := ?pc96) rfl rfl (sm_call (args := [_, _, _]) ?hc96 ⟨Tryd.func47, rfl, rfl, rfl, rfl⟩ rfl rfl rfl rfl) ?_; (case hc96 => (first | (refine Fn.decT (am_In _ _ _) ?_; omega) | (refine Fn.decF (am_In _ _ _) ?_; omega) | exact am_In _ _ _)); rintro _ rfl -; try dsimp only))
   (first | (refine AL.noV rfl rfl rfl rfl ?_) | (refine AL.noU rfl ⟨_, rfl, rfl⟩ rfl ?_) | (refine AL.rpy rfl rfl rfl (rp_not rfl rfl) ?_))
   (first | (refine AL.noV rfl rfl rfl rfl ?_) | (refine AL.noU rfl ⟨_, rfl, rfl⟩ rfl ?_) | (refine AL.rpy rfl rfl rfl (rp_pick rfl rfl rfl) ?_))
   refine AL.rp rfl rfl (rp_pick rfl rfl rfl) ?_
   refine AL.nil ?_
   try simp only [thenS, S.put, S.newObj, setL, V.cs, List.length_cons, List.length_nil, List.take_succ_cons, List.take_zero, List.drop_succ_cons, List.drop_zero, List.drop_nil, List.nil_append, List.cons_append, List.append_nil, Nat.zero_add, Nat.reduceAdd, List.map_cons, List.map_nil, List.set_cons_zero, List.set_cons_succ]
   refine AW.condT rfl ?_
   refine AW.seq ?_
   refine AW.region ?_
   refine AL.rp rfl rfl (rp_assign rfl rfl) ?_
   refine AL.rp rfl rfl (rp_assign rfl rfl) ?_
   refine AL.nil ?_
   try simp only [thenS, S.put]
   refine AW.ret ?_
   exact ⟨[_, _], ⟨rfl, rfl, trivial⟩, rfl, by simp [tupOf, V.pure, V.has, V.hasL]⟩
 by_cases ha : 0 ≤ xa ∧ xa ≤ 25
 rotate_left
 ·have hE' : stE ⟨k, xt, xa, xb, xn⟩ = 2 := stE_r (k := k) (p := 2) rfl h1 h2 hp (by simp [badR, hasT, hasA, hasB, rgOk]; omega)
  rw [hE'] at hE
  obtain rfl : S1 = ⟨#[]⟩ := by rw [← hS]; unfold stS; rw [hE', if_neg (by decide)]
  subst hE
  by_cases hneg : xa < 0
  ·refine Fn.intro (n := 111) ⟨Tryd.func28, rfl, rfl, rfl, rfl⟩ (by simp [V.pure, V.has, V.hasL]) (by simp) fun w0 out => ?_
   refine AW.seq ?_
   refine AW.region ?_
   refine AL.sm rfl (sm_box 1 rfl rfl rfl (by first | rfl | simp [S.clean, S.put, S.newObj, S.forget, V.has, V.hasL, junkIf, setL, V.cs, hasL_i, hasL_d, hasL_b, hasL_s, hasL_n, hasL_rep, hasL_flat, hasL_append, -List.map_set]) rfl) ?_
   refine AL.rp rfl rfl (rp_assign rfl rfl) ?_
   refine AL.rp rfl rfl (rp_assign rfl rfl) ?_
   refine AL.nil ?_
   try simp only [thenS, S.put, S.newObj, setL, V.cs, List.length_cons, List.length_nil, List.take_succ_cons, List.take_zero, List.drop_succ_cons, List.drop_zero, List.drop_nil, List.nil_append, List.cons_append, List.append_nil, Nat.zero_add, Nat.reduceAdd, List.map_cons, List.map_nil, List.set_cons_zero, List.set_cons_succ, enum]
   refine AW.seq ?_
   refine AW.region ?_
   (first | (refine AL.rp rfl rfl (rp_field_ref Tryd.underlying60 rfl rfl rfl inf3 (by decide) rfl) ?_) | (refine AL.rp rfl rfl (rp_field_ad Tryd.underlying60 rfl rfl rfl inf3 (by decide) rfl) ?_))
   (first | (refine AL.rd rfl rfl (rd_load_ref Tryd.underlying3 rfl rfl rfl rfl rfl rfl) ?_) | (refine AL.rd rfl rfl (rd_load_ad Tryd.underlying3 rfl rfl rfl rfl) ?_) | (refine AL.rd rfl rfl (rd_load_map Tryd.underlying3 rfl rfl rfl rfl rfl rfl (by assumption)) ?_) | (refine AL.rd rfl rfl (rd_load_flat Tryd.underlying3 rfl rfl rfl rfl rfl rfl (fun _ => rfl) (by assumption) rfl) ?_))
   refine AL.call (post := ?pc97) rfl (sm_call (args := [_]) ?hc97 ⟨Tryd.func52, rfl, rfl, rfl, rfl⟩ rfl rfl rfl rfl) ?_
   case hc97 => exact hsw
   rintro _ rfl -
   try dsimp only
   refine AL.rp rfl rfl (rp_move rfl rfl) ?_
   refine AL.rp rfl rfl (rp_extract rfl rfl rfl) ?_
   refine AL.rp rfl rfl (rp_extract rfl rfl rfl) ?_
   refine AL.rp rfl rfl (rp_extract rfl rfl rfl) ?_
   refine AL.rp rfl rfl (rp_extract rfl rfl rfl) ?_
   refine AL.rp rfl rfl (rp_extract rfl rfl rfl) ?_
   refine AL.rp rfl rfl (rp_assign rfl rfl) ?_
   refine AL.rp rfl rfl (rp_assign rfl rfl) ?_
   refine AL.rp rfl rfl (rp_assign rfl rfl) ?_
   refine AL.rp rfl rfl (rp_assign rfl rfl) ?_
   refine AL.rp rfl rfl (rp_assign rfl rfl) ?_
   refine AL.nil ?_
   try simp only [thenS, S.put, S.newObj, setL, V.cs, List.length_cons, List.length_nil, List.take_succ_cons, List.take_zero, List.drop_succ_cons, List.drop_zero, List.drop_nil, List.nil_append, List.cons_append, List.append_nil, Nat.zero_add, Nat.reduceAdd, List.map_cons, List.map_nil, List.set_cons_zero, List.set_cons_succ]
   refine AW.seq ?_
   refine AW.seq ?_
   refine AW.region ?_
   refine AL.rp rfl rfl (rp_move rfl rfl) ?_
   (first | (refine AL.rp rfl rfl (rp_eqlsT rfl rfl rfl (by assumption)) ?_) | (refine AL.rp rfl rfl (rp_eqlsF rfl rfl rfl (by assumption)) ?_) | (refine AL.rp rfl rfl (rp_eqls rfl rfl rfl) ?_))
   refine AL.nil ?_
   try simp only [thenS, S.put]
   refine AW.condF rfl ?_
   refine AW.skip ?_
   try simp only [thenS]
   refine AW.seq ?_
   refine AW.seq ?_
   refine AW.region ?_
   refine AL.rp rfl rfl (rp_move rfl rfl) ?_
   refine AL.rp rfl rfl (rp_move rfl rfl) ?_
   (first | (refine AL.noV rfl rfl rfl rfl ?_) | (refine AL.noU rfl ⟨_, rfl, rfl⟩ rfl ?_) | (refine AL.rpy rfl rfl rfl (rp_field_ref Tryd.underlying60 rfl rfl rfl inf3 (by decide) rfl) ?_) | (refine AL.rpy rfl rfl rfl (rp_field_ad Tryd.underlying60 rfl rfl rfl inf3 (by decide) rfl) ?_))
   (first | (refine AL.noV rfl rfl rfl rfl ?_) | (refine AL.noU rfl ⟨_, rfl, rfl⟩ rfl ?_) | (refine AL.rdy rfl rfl rfl (rd_load_ref Tryd.underlying3 rfl rfl rfl rfl rfl rfl) ?_) | (refine AL.rdy rfl rfl rfl (rd_load_ad Tryd.underlying3 rfl rfl rfl rfl) ?_) | (refine AL.rdy rfl rfl rfl (rd_load_map Tryd.underlying3 rfl rfl rfl rfl rfl rfl (by assumption)) ?_) | (refine AL.rdy rfl rfl rfl (rd_load_flat Tryd.underlying3 rfl rfl rfl rfl rfl rfl (fun _ => rfl) (by assumption) rfl) ?_))
   (first | (refine AL.no rfl rfl rfl rfl ?_) | (refine AL.noU rfl ⟨_, rfl, rfl⟩ rfl ?_) | (refine AL.cally (post := ?pc98) rfl rfl (sm_call (args := [_, _, _]) ?hc98 ⟨Tryd.func47, rfl, rfl, rfl, rfl⟩ rfl rfl rfl rfl) ?_; (case hc98 => (first | (refine Fn.decT (am_In _ _ _) ?_; omega) | (refine Fn.decF (am_In _ _ _) ?_; omega) | exact am_In _ _ _)); rintro _ rfl -; try dsimp only))
   (first | (refine AL.noV rfl rfl rfl rfl ?_) | (refine AL.noU rfl ⟨_, rfl, rfl⟩ rfl ?_) | (refine AL.rpy rfl rfl rfl (rp_not rfl rfl) ?_))
   refine AL.rp rfl rfl (rp_pick rfl rfl rfl) ?_
   refine AL.rp rfl rfl (rp_move rfl rfl) ?_
   (first | (refine AL.noV rfl rfl rfl rfl ?_) | (refine AL.noU rfl ⟨_, rfl, rfl⟩ rfl ?_) | (refine AL.rpy rfl rfl rfl (rp_move rfl rfl) ?_))
   (first | (refine AL.noV rfl rfl rfl rfl ?_) | (refine AL.noU rfl ⟨_, rfl, rfl⟩ rfl ?_) | (refine AL.rpy rfl rfl rfl (rp_move rfl rfl) ?_))
   (first | (refine AL.noV rfl rfl rfl rfl ?_) | (refine AL.noU rfl ⟨_, rfl, rfl⟩ rfl ?_) | (refine AL.rpy rfl rfl rfl (rp_field_ref Tryd.underlying60 rfl rfl rfl inf3 (by decide) rfl) ?_) | (refine AL.rpy rfl rfl rfl (rp_field_ad Tryd.underlying60 rfl rfl rfl inf3 (by decide) rfl) ?_))
   (first | (refine AL.noV rfl rfl rfl rfl ?_) | (refine AL.noU rfl ⟨_, rfl, rfl⟩ rfl ?_) | (refine AL.rdy rfl rfl rfl (rd_load_ref Tryd.underlying3 rfl rfl rfl rfl rfl rfl) ?_) | (refine AL.rdy rfl rfl rfl (rd_load_ad Tryd.underlying3 rfl rfl rfl rfl) ?_) | (refine AL.rdy rfl rfl rfl (rd_load_map Tryd.underlying3 rfl rfl rfl rfl rfl rfl (by assumption)) ?_) | (refine AL.rdy rfl rfl rfl (rd_load_flat Tryd.underlying3 rfl rfl rfl rfl rfl rfl (fun _ => rfl) (by assumption) rfl) ?_))
   (first | (refine AL.no rfl rfl rfl rfl ?_) | (refine AL.noU rfl ⟨_, rfl, rfl⟩ rfl ?_) | (refine AL.cally (post := ?pc99) rfl rfl (sm_call (args := [_, _, _]) ?hc99 ⟨Tryd.func47, rfl, rfl, rfl, rfl⟩ rfl rfl rfl rfl) ?_; (case hc99 => (first | (refine Fn.decT (am_In _ _ _) ?_; omega) | (refine Fn.decF (am_In _ _ _) ?_; omega) | exact am_In _ _ _)); rintro _ rfl -; try dsimp only))
   (first | (refine AL.noV rfl rfl rfl rfl ?_) | (refine AL.noU rfl ⟨_, rfl, rfl⟩ rfl ?_) | (refine AL.rpy rfl rfl rfl (rp_not rfl rfl) ?_))
   (first | (refine AL.noV rfl rfl rfl rfl ?_) | (refine AL.noU rfl ⟨_, rfl, rfl⟩ rfl ?_) | (refine AL.rpy rfl rfl rfl (rp_pick rfl rfl rfl) ?_))
   refine AL.rp rfl rfl (rp_pick rfl rfl rfl) ?_
   refine AL.rp rfl rfl (rp_move rfl rfl) ?_
   (first | (refine AL.noV rfl rfl rfl rfl ?_) | (refine AL.noU rfl ⟨_, rfl, rfl⟩ rfl ?_) | (refine AL.rpy rfl rfl rfl (rp_move rfl rfl) ?_))
   (first | (refine AL.noV rfl rfl rfl rfl ?_) | (refine AL.noU rfl ⟨_, rfl, rfl⟩ rfl ?_) | (refine AL.rpy rfl rfl rfl (rp_move rfl rfl) ?_))
   (first | (refine AL.noV rfl rfl rfl rfl ?_) | (refine AL.noU rfl ⟨_, rfl, rfl⟩ rfl ?_) | (refine AL.rpy rfl rfl rfl (rp_field_ref Tryd.underlying60 rfl rfl rfl inf3 (by decide) rfl) ?_) | (refine AL.rpy rfl rfl rfl (rp_field_ad Tryd.underlying60 rfl rfl rfl inf3 (by decide) rfl) ?_))
   (first | (refine AL.noV rfl rfl rfl rfl ?_) | (refine AL.noU rfl ⟨_, rfl, rfl⟩ rfl ?_) | (refine AL.rdy rfl rfl rfl (rd_load_ref Tryd.underlying3 rfl rfl rfl rfl rfl rfl) ?_) | (refine AL.rdy rfl rfl rfl (rd_load_ad Tryd.underlying3 rfl rfl rfl rfl) ?_) | (refine AL.rdy rfl rfl rfl (rd_load_map Tryd.underlying3 rfl rfl rfl rfl rfl rfl (by assumption)) ?_) | (refine AL.rdy rfl rfl rfl (rd_load_flat Tryd.underlying3 rfl rfl rfl rfl rfl rfl (fun _ => rfl) (by assumption) rfl) ?_))
   (first | (refine AL.no rfl rfl rfl rfl ?_) | (refine AL.noU rfl ⟨_, rfl, rfl⟩ rfl ?_) | (refine AL.cally (post := ?pc100) rfl rfl (sm_call (args := [_, _, _]) ?hc100 ⟨Tryd.func47, rfl, rfl, rfl, rfl⟩ rfl rfl rfl rfl) ?_; (case hc100 => (first | (refine Fn.decT (am_In _ _ _) ?_; omega) | (refine Fn.decF (am_In _ _ _) ?_; omega) | exact am_In _ _ _)); rintro _ rfl -; try dsimp only))
   (first | (refine AL.noV rfl rfl rfl rfl ?_) | (refine AL.noU rfl ⟨_, rfl, rfl⟩ rfl ?_) | (refine AL.rpy rfl rfl rfl (rp_not rfl rfl) ?_))
   (first | (refine AL.noV rfl rfl rfl rfl ?_) | (refine AL.noU rfl ⟨_, rfl, rfl⟩ rfl ?_) | (refine AL.rpy rfl rfl rfl (rp_pick rfl rfl rfl) ?_))
   refine AL.rp rfl rfl (rp_pick rfl rfl rfl) ?_
   refine AL.nil ?_
   try simp only [thenS, S.put, S.newObj, setL, V.cs, List.length_cons, List.length_nil, List.take_succ_cons, List.take_zero, List.drop_succ_cons, List.drop_zero, List.drop_nil, List.nil_append, List.cons_append, List.append_nil, Nat.zero_add, Nat.reduceAdd, List.map_cons, List.map_nil, List.set_cons_zero, List.set_cons_succ]
   refine AW.condT rfl ?_
   refine AW.seq ?_
   refine AW.region ?_
   refine AL.rp rfl rfl (rp_assign rfl rfl) ?_
   refine AL.rp rfl rfl (rp_assign rfl rfl) ?_
   refine AL.nil ?_
   try simp only [thenS, S.put]
   refine AW.ret ?_
   exact ⟨[_, _], ⟨rfl, rfl, trivial⟩, rfl, by simp [tupOf, V.pure, V.has, V.hasL]⟩
  ·have hbig : 25 < xa := by omega
   refine Fn.intro (n := 111) ⟨Tryd.func28, rfl, rfl, rfl, rfl⟩ (by simp [V.pure, V.has, V.hasL]) (by simp) fun w0 out => ?_
   refine AW.seq ?_
   refine AW.region ?_
   refine AL.sm rfl (sm_box 1 rfl rfl rfl (by first | rfl | simp [S.clean, S.put, S.newObj, S.forget, V.has, V.hasL, junkIf, setL, V.cs, hasL_i, hasL_d, hasL_b, hasL_s, hasL_n, hasL_rep, hasL_flat, hasL_append, -List.map_set]) rfl) ?_
   refine AL.rp rfl rfl (rp_assign rfl rfl) ?_
   refine AL.rp rfl rfl (rp_assign rfl rfl) ?_
   refine AL.nil ?_
   try simp only [thenS, S.put, S.newObj, setL, V.cs, List.length_cons, List.length_nil, List.take_succ_cons, List.take_zero, List.drop_succ_cons, List.drop_zero, List.drop_nil, List.nil_append, List.cons_append, List.append_nil, Nat.zero_add, Nat.reduceAdd, List.map_cons, List.map_nil, List.set_cons_zero, List.set_cons_succ, enum]
   refine AW.seq ?_
   refine AW.region ?_
   (first | (refine AL.rp rfl rfl (rp_field_ref Tryd.underlying60 rfl rfl rfl inf3 (by decide) rfl) ?_) | (refine AL.rp rfl rfl (rp_field_ad Tryd.underlying60 rfl rfl rfl inf3 (by decide) rfl) ?_))
   (first | (refine AL.rd rfl rfl (rd_load_ref Tryd.underlying3 rfl rfl rfl rfl rfl rfl) ?_) | (refine AL.rd rfl rfl (rd_load_ad Tryd.underlying3 rfl rfl rfl rfl) ?_) | (refine AL.rd rfl rfl (rd_load_map Tryd.underlying3 rfl rfl rfl rfl rfl rfl (by assumption)) ?_) | (refine AL.rd rfl rfl (rd_load_flat Tryd.underlying3 rfl rfl rfl rfl rfl rfl (fun _ => rfl) (by assumption) rfl) ?_))
   refine AL.call (post := ?pc101) rfl (sm_call (args := [_]) ?hc101 ⟨Tryd.func52, rfl, rfl, rfl, rfl⟩ rfl rfl rfl rfl) ?_
   case hc101 => exact hsw
   rintro _ rfl -
   try dsimp only
   refine AL.rp rfl rfl (rp_move rfl rfl) ?_
   refine AL.rp rfl rfl (rp_extract rfl rfl rfl) ?_
   refine AL.rp rfl rfl (rp_extract rfl rfl rfl) ?_
   refine AL.rp rfl rfl (rp_extract rfl rfl rfl) ?_
   refine AL.rp rfl rfl (rp_extract rfl rfl rfl) ?_
   refine AL.rp rfl rfl (rp_extract rfl rfl rfl) ?_
   refine AL.rp rfl rfl (rp_assign rfl rfl) ?_
   refine AL.rp rfl rfl (rp_assign rfl rfl) ?_
   refine AL.rp rfl rfl (rp_assign rfl rfl) ?_
   refine AL.rp rfl rfl (rp_assign rfl rfl) ?_
   refine AL.rp rfl rfl (rp_assign rfl rfl) ?_
   refine AL.nil ?_
   try simp only [thenS, S.put, S.newObj, setL, V.cs, List.length_cons, List.length_nil, List.take_succ_cons, List.take_zero, List.drop_succ_cons, List.drop_zero, List.drop_nil, List.nil_append, List.cons_append, List.append_nil, Nat.zero_add, Nat.reduceAdd, List.map_cons, List.map_nil, List.set_cons_zero, List.set_cons_succ]
   refine AW.seq ?_
   refine AW.seq ?_
   refine AW.region ?_
   refine AL.rp rfl rfl (rp_move rfl rfl) ?_
   (first | (refine AL.rp rfl rfl (rp_eqlsT rfl rfl rfl (by assumption)) ?_) | (refine AL.rp rfl rfl (rp_eqlsF rfl rfl rfl (by assumption)) ?_) | (refine AL.rp rfl rfl (rp_eqls rfl rfl rfl) ?_))
   refine AL.nil ?_
   try simp only [thenS, S.put]
   refine AW.condF rfl ?_
   refine AW.skip ?_
   try simp only [thenS]
   refine AW.seq ?_
   refine AW.seq ?_
   refine AW.region ?_
   refine AL.rp rfl rfl (rp_move rfl rfl) ?_
   refine AL.rp rfl rfl (rp_move rfl rfl) ?_
   (first | (refine AL.noV rfl rfl rfl rfl ?_) | (refine AL.noU rfl ⟨_, rfl, rfl⟩ rfl ?_) | (refine AL.rpy rfl rfl rfl (rp_field_ref Tryd.underlying60 rfl rfl rfl inf3 (by decide) rfl) ?_) | (refine AL.rpy rfl rfl rfl (rp_field_ad Tryd.underlying60 rfl rfl rfl inf3 (by decide) rfl) ?_))
   (first | (refine AL.noV rfl rfl rfl rfl ?_) | (refine AL.noU rfl ⟨_, rfl, rfl⟩ rfl ?_) | (refine AL.rdy rfl rfl rfl (rd_load_ref Tryd.underlying3 rfl rfl rfl rfl rfl rfl) ?_) | (refine AL.rdy rfl rfl rfl (rd_load_ad Tryd.underlying3 rfl rfl rfl rfl) ?_) | (refine AL.rdy rfl rfl rfl (rd_load_map Tryd.underlying3 rfl rfl rfl rfl rfl rfl (by assumption)) ?_) | (refine AL.rdy rfl rfl rfl (rd_load_flat Tryd.underlying3 rfl rfl rfl rfl rfl rfl (fun _ => rfl) (by assumption) rfl) ?_))
   (first | (refine AL.no rfl rfl rfl rfl ?_) | (refine AL.noU rfl ⟨_, rfl, rfl⟩ rfl ?_) | (refine AL.cally (post := ?pc102) rfl rfl (sm_call (args := [_, _, _]) ?hc102 ⟨Tryd.func47, rfl, rfl, rfl, rfl⟩ rfl rfl rfl rfl) ?_; (case hc102 => (first | (refine Fn.decT (am_In _ _ _) ?_; omega) | (refine Fn.decF (am_In _ _ _) ?_; omega) | exact am_In _ _ _)); rintro _ rfl -; try dsimp only))
   (first | (refine AL.noV rfl rfl rfl rfl ?_) | (refine AL.noU rfl ⟨_, rfl, rfl⟩ rfl ?_) | (refine AL.rpy rfl rfl rfl (rp_not rfl rfl) ?_))
   refine AL.rp rfl rfl (rp_pick rfl rfl rfl) ?_
   refine AL.rp rfl rfl (rp_move rfl rfl) ?_
   (first | (refine AL.noV rfl rfl rfl rfl ?_) | (refine AL.noU rfl ⟨_, rfl, rfl⟩ rfl ?_) | (refine AL.rpy rfl rfl rfl (rp_move rfl rfl) ?_))
   (first | (refine AL.noV rfl rfl rfl rfl ?_) | (refine AL.noU rfl ⟨_, rfl, rfl⟩ rfl ?_) | (refine AL.rpy rfl rfl rfl (rp_move rfl rfl) ?_))
   (first | (refine AL.noV rfl rfl rfl rfl ?_) | (refine AL.noU rfl ⟨_, rfl, rfl⟩ rfl ?_) | (refine AL.rpy rfl rfl rfl (rp_field_ref Tryd.underlying60 rfl rfl rfl inf3 (by decide) rfl) ?_) | (refine AL.rpy rfl rfl rfl (rp_field_ad Tryd.underlying60 rfl rfl rfl inf3 (by decide) rfl) ?_))
   (first | (refine AL.noV rfl rfl rfl rfl ?_) | (refine AL.noU rfl ⟨_, rfl, rfl⟩ rfl ?_) | (refine AL.rdy rfl rfl rfl (rd_load_ref Tryd.underlying3 rfl rfl rfl rfl rfl rfl) ?_) | (refine AL.rdy rfl rfl rfl (rd_load_ad Tryd.underlying3 rfl rfl rfl rfl) ?_) | (refine AL.rdy rfl rfl rfl (rd_load_map Tryd.underlying3 rfl rfl rfl rfl rfl rfl (by assumption)) ?_) | (refine AL.rdy rfl rfl rfl (rd_load_flat Tryd.underlying3 rfl rfl rfl rfl rfl rfl (fun _ => rfl) (by assumption) rfl) ?_))
   (first | (refine AL.no rfl rfl rfl rfl ?_) | (refine AL.noU rfl ⟨_, rfl, rfl⟩ rfl ?_) | (refine AL.cally (post := ?pc103) rfl rfl (sm_call (args := [_, _, _]) ?hc103 ⟨Tryd.func47, rfl, rfl, rfl, rfl⟩ rfl rfl rfl rfl) ?_; (case hc103 => (first | (refine Fn.decT (am_In _ _ _) ?_; omega) | (refine Fn.decF (am_In _ _ _) ?_; omega) | exact am_In _ _ _)); rintro _ rfl -; try dsimp only))
   (first | (refine AL.noV rfl rfl rfl rfl ?_) | (refine AL.noU rfl ⟨_, rfl, rfl⟩ rfl ?_) | (refine AL.rpy rfl rfl rfl (rp_not rfl rfl) ?_))
   (first | (refine AL.noV rfl rfl rfl rfl ?_) | (refine AL.noU rfl ⟨_, rfl, rfl⟩ rfl ?_) | (refine AL.rpy rfl rfl rfl (rp_pick rfl rfl rfl) ?_))
   refine AL.rp rfl rfl (rp_pick rfl rfl rfl) ?_
   refine AL.rp rfl rfl (rp_move rfl rfl) ?_
   (first | (refine AL.noV rfl rfl rfl rfl ?_) | (refine AL.noU rfl ⟨_, rfl, rfl⟩ rfl ?_) | (refine AL.rpy rfl rfl rfl (rp_move rfl rfl) ?_))
   (first | (refine AL.noV rfl rfl rfl rfl ?_) | (refine AL.noU rfl ⟨_, rfl, rfl⟩ rfl ?_) | (refine AL.rpy rfl rfl rfl (rp_move rfl rfl) ?_))
   (first | (refine AL.noV rfl rfl rfl rfl ?_) | (refine AL.noU rfl ⟨_, rfl, rfl⟩ rfl ?_) | (refine AL.rpy rfl rfl rfl (rp_field_ref Tryd.underlying60 rfl rfl rfl inf3 (by decide) rfl) ?_) | (refine AL.rpy rfl rfl rfl (rp_field_ad Tryd.underlying60 rfl rfl rfl inf3 (by decide) rfl) ?_))
   (first | (refine AL.noV rfl rfl rfl rfl ?_) | (refine AL.noU rfl ⟨_, rfl, rfl⟩ rfl ?_) | (refine AL.rdy rfl rfl rfl (rd_load_ref Tryd.underlying3 rfl rfl rfl rfl rfl rfl) ?_) | (refine AL.rdy rfl rfl rfl (rd_load_ad Tryd.underlying3 rfl rfl rfl rfl) ?_) | (refine AL.rdy rfl rfl rfl (rd_load_map Tryd.underlying3 rfl rfl rfl rfl rfl rfl (by assumption)) ?_) | (refine AL.rdy rfl rfl rfl (rd_load_flat Tryd.underlying3 rfl rfl rfl rfl rfl rfl (fun _ => rfl) (by assumption) rfl) ?_))
   (first | (refine AL.no rfl rfl rfl rfl ?_) | (refine AL.noU rfl ⟨_, rfl, rfl⟩ rfl ?_) | (refine AL.cally (post := ?pc104) rfl rfl (sm_call (args := [_, _, _]) ?hc104 ⟨Tryd.func47, rfl, rfl, rfl, rfl⟩ rfl rfl rfl rfl) ?_; (case hc104 => (first | (refine Fn.decT (am_In _ _ _) ?_; omega) | (refine Fn.decF (am_In _ _ _) ?_; omega) | exact am_In _ _ _)); rintro _ rfl -; try dsimp only))
   (first | (refine AL.noV rfl rfl rfl rfl ?_) | (refine AL.noU rfl ⟨_, rfl, rfl⟩ rfl ?_) | (refine AL.rpy rfl rfl rfl (rp_not rfl rfl) ?_))
   (first | (refine AL.noV rfl rfl rfl rfl ?_) | (refine AL.noU rfl ⟨_, rfl, rfl⟩ rfl ?_) | (refine AL.rpy rfl rfl rfl (rp_pick rfl rfl rfl) ?_))
   refine AL.rp rfl rfl (rp_pick rfl rfl rfl) ?_
   refine AL.nil ?_
   try simp only [thenS, S.put, S.newObj, setL, V.cs, List.length_cons, List.length_nil, List.take_succ_cons, List.take_zero, List.drop_succ_cons, List.drop_zero, List.drop_nil, List.nil_append, List.cons_append, List.append_nil, Nat.zero_add, Nat.reduceAdd, List.map_cons, List.map_nil, List.set_cons_zero, List.set_cons_succ]
   refine AW.condT rfl ?_
   refine AW.seq ?_
   refine AW.region ?_
   refine AL.rp rfl rfl (rp_assign rfl rfl) ?_
   refine AL.rp rfl rfl (rp_assign rfl rfl) ?_
   refine AL.nil ?_
   try simp only [thenS, S.put]
   refine AW.ret ?_
   exact ⟨[_, _], ⟨rfl, rfl, trivial⟩, rfl, by simp [tupOf, V.pure, V.has, V.hasL]⟩
 by_cases zb : xb = 0
 rotate_left
 ·skip
  have hE' : stE ⟨k, xt, xa, xb, xn⟩ = 3 := stE_f (k := k) (p := 2) rfl h1 h2 hp (by simp only [badR, hasT, hasA, hasB, rgOk]; simp; omega) (by simp [badN, hasN]) (by simp [badF, hasT, hasA, hasB, hasN, zb])
  rw [hE'] at hE
  obtain rfl : S1 = ⟨#[]⟩ := by rw [← hS]; unfold stS; rw [hE', if_neg (by decide)]
  subst hE
  refine Fn.intro (n := 111) ⟨Tryd.func28, rfl, rfl, rfl, rfl⟩ (by simp [V.pure, V.has, V.hasL]) (by simp) fun w0 out => ?_
  refine AW.seq ?_
  refine AW.region ?_
  refine AL.sm rfl (sm_box 1 rfl rfl rfl (by first | rfl | simp [S.clean, S.put, S.newObj, S.forget, V.has, V.hasL, junkIf, setL, V.cs, hasL_i, hasL_d, hasL_b, hasL_s, hasL_n, hasL_rep, hasL_flat, hasL_append, -List.map_set]) rfl) ?_
  refine AL.rp rfl rfl (rp_assign rfl rfl) ?_
  refine AL.rp rfl rfl (rp_assign rfl rfl) ?_
  refine AL.nil ?_
  try simp only [thenS, S.put, S.newObj, setL, V.cs, List.length_cons, List.length_nil, List.take_succ_cons, List.take_zero, List.drop_succ_cons, List.drop_zero, List.drop_nil, List.nil_append, List.cons_append, List.append_nil, Nat.zero_add, Nat.reduceAdd, List.map_cons, List.map_nil, List.set_cons_zero, List.set_cons_succ, enum]
  refine AW.seq ?_
  refine AW.region ?_
  (first | (refine AL.rp rfl rfl (rp_field_ref Tryd.underlying60 rfl rfl rfl inf3 (by decide) rfl) ?_) | (refine AL.rp rfl rfl (rp_field_ad Tryd.underlying60 rfl rfl rfl inf3 (by decide) rfl) ?_))
  (first | (refine AL.rd rfl rfl (rd_load_ref Tryd.underlying3 rfl rfl rfl rfl rfl rfl) ?_) | (refine AL.rd rfl rfl (rd_load_ad Tryd.underlying3 rfl rfl rfl rfl) ?_) | (refine AL.rd rfl rfl (rd_load_map Tryd.underlying3 rfl rfl rfl rfl rfl rfl (by assumption)) ?_) | (refine AL.rd rfl rfl (rd_load_flat Tryd.underlying3 rfl rfl rfl rfl rfl rfl (fun _ => rfl) (by assumption) rfl) ?_))
  refine AL.call (post := ?pc105) rfl (sm_call (args := [_]) ?hc105 ⟨Tryd.func52, rfl, rfl, rfl, rfl⟩ rfl rfl rfl rfl) ?_
  case hc105 => exact hsw
  rintro _ rfl -
  try dsimp only
  refine AL.rp rfl rfl (rp_move rfl rfl) ?_
  refine AL.rp rfl rfl (rp_extract rfl rfl rfl) ?_
  refine AL.rp rfl rfl (rp_extract rfl rfl rfl) ?_
  refine AL.rp rfl rfl (rp_extract rfl rfl rfl) ?_
  refine AL.rp rfl rfl (rp_extract rfl rfl rfl) ?_
  refine AL.rp rfl rfl (rp_extract rfl rfl rfl) ?_
  refine AL.rp rfl rfl (rp_assign rfl rfl) ?_
  refine AL.rp rfl rfl (rp_assign rfl rfl) ?_
  refine AL.rp rfl rfl (rp_assign rfl rfl) ?_
  refine AL.rp rfl rfl (rp_assign rfl rfl) ?_
  refine AL.rp rfl rfl (rp_assign rfl rfl) ?_
  refine AL.nil ?_
  try simp only [thenS, S.put, S.newObj, setL, V.cs, List.length_cons, List.length_nil, List.take_succ_cons, List.take_zero, List.drop_succ_cons, List.drop_zero, List.drop_nil, List.nil_append, List.cons_append, List.append_nil, Nat.zero_add, Nat.reduceAdd, List.map_cons, List.map_nil, List.set_cons_zero, List.set_cons_succ]
  refine AW.seq ?_
  refine AW.seq ?_
  refine AW.region ?_
  refine AL.rp rfl rfl (rp_move rfl rfl) ?_
  (first | (refine AL.rp rfl rfl (rp_eqlsT rfl rfl rfl (by assumption)) ?_) | (refine AL.rp rfl rfl (rp_eqlsF rfl rfl rfl (by assumption)) ?_) | (refine AL.rp rfl rfl (rp_eqls rfl rfl rfl) ?_))
  refine AL.nil ?_
  try simp only [thenS, S.put]
  refine AW.condF rfl ?_
  refine AW.skip ?_
  try simp only [thenS]
  refine AW.seq ?_
  refine AW.seq ?_
  refine AW.region ?_
  refine AL.rp rfl rfl (rp_move rfl rfl) ?_
  refine AL.rp rfl rfl (rp_move rfl rfl) ?_
  (first | (refine AL.noV rfl rfl rfl rfl ?_) | (refine AL.noU rfl ⟨_, rfl, rfl⟩ rfl ?_) | (refine AL.rpy rfl rfl rfl (rp_field_ref Tryd.underlying60 rfl rfl rfl inf3 (by decide) rfl) ?_) | (refine AL.rpy rfl rfl rfl (rp_field_ad Tryd.underlying60 rfl rfl rfl inf3 (by decide) rfl) ?_))
  (first | (refine AL.noV rfl rfl rfl rfl ?_) | (refine AL.noU rfl ⟨_, rfl, rfl⟩ rfl ?_) | (refine AL.rdy rfl rfl rfl (rd_load_ref Tryd.underlying3 rfl rfl rfl rfl rfl rfl) ?_) | (refine AL.rdy rfl rfl rfl (rd_load_ad Tryd.underlying3 rfl rfl rfl rfl) ?_) | (refine AL.rdy rfl rfl rfl (rd_load_map Tryd.underlying3 rfl rfl rfl rfl rfl rfl (by assumption)) ?_) | (refine AL.rdy rfl rfl rfl (rd_load_flat Tryd.underlying3 rfl rfl rfl rfl rfl rfl (fun _ => rfl) (by assumption) rfl) ?_))
  (first | (refine AL.no rfl rfl rfl rfl ?_) | (refine AL.noU rfl ⟨_, rfl, rfl⟩ rfl ?_) | (refine AL.cally (post := ?pc106) rfl rfl (sm_call (args := [_, _, _]) ?hc106 ⟨Tryd.func47, rfl, rfl, rfl, rfl⟩ rfl rfl rfl rfl) ?_; (case hc106 => (first | (refine Fn.decT (am_In _ _ _) ?_; omega) | (refine Fn.decF (am_In _ _ _) ?_; omega) | exact am_In _ _ _)); rintro _ rfl -; try dsimp only))
  (first | (refine AL.noV rfl rfl rfl rfl ?_) | (refine AL.noU rfl ⟨_, rfl, rfl⟩ rfl ?_) | (refine AL.rpy rfl rfl rfl (rp_not rfl rfl) ?_))
  refine AL.rp rfl rfl (rp_pick rfl rfl rfl) ?_
  refine AL.rp rfl rfl (rp_move rfl rfl) ?_
  (first | (refine AL.noV rfl rfl rfl rfl ?_) | (refine AL.noU rfl ⟨_, rfl, rfl⟩ rfl ?_) | (refine AL.rpy rfl rfl rfl (rp_move rfl rfl) ?_))
  (first | (refine AL.noV rfl rfl rfl rfl ?_) | (refine AL.noU rfl ⟨_, rfl, rfl⟩ rfl ?_) | (refine AL.rpy rfl rfl rfl (rp_move rfl rfl) ?_))
  (first | (refine AL.noV rfl rfl rfl rfl ?_) | (refine AL.noU rfl ⟨_, rfl, rfl⟩ rfl ?_) | (refine AL.rpy rfl rfl rfl (rp_field_ref Tryd.underlying60 rfl rfl rfl inf3 (by decide) rfl) ?_) | (refine AL.rpy rfl rfl rfl (rp_field_ad Tryd.underlying60 rfl rfl rfl inf3 (by decide) rfl) ?_))
  (first | (refine AL.noV rfl rfl rfl rfl ?_) | (refine AL.noU rfl ⟨_, rfl, rfl⟩ rfl ?_) | (refine AL.rdy rfl rfl rfl (rd_load_ref Tryd.underlying3 rfl rfl rfl rfl rfl rfl) ?_) | (refine AL.rdy rfl rfl rfl (rd_load_ad Tryd.underlying3 rfl rfl rfl rfl) ?_) | (refine AL.rdy rfl rfl rfl (rd_load_map Tryd.underlying3 rfl rfl rfl rfl rfl rfl (by assumption)) ?_) | (refine AL.rdy rfl rfl rfl (rd_load_flat Tryd.underlying3 rfl rfl rfl rfl rfl rfl (fun _ => rfl) (by assumption) rfl) ?_))
  (first | (refine AL.no rfl rfl rfl rfl ?_) | (refine AL.noU rfl ⟨_, rfl, rfl⟩ rfl ?_) | (refine AL.cally (post := ?pc107) rfl rfl (sm_call (args := [_, _, _]) ?hc107 ⟨Tryd.func47, rfl, rfl, rfl, rfl⟩ rfl rfl rfl rfl) ?_; (case hc107 => (first | (refine Fn.decT (am_In _ _ _) ?_; omega) | (refine Fn.decF (am_In _ _ _) ?_; omega) | exact am_In _ _ _)); rintro _ rfl -; try dsimp only))
  (first | (refine AL.noV rfl rfl rfl rfl ?_) | (refine AL.noU rfl ⟨_, rfl, rfl⟩ rfl ?_) | (refine AL.rpy rfl rfl rfl (rp_not rfl rfl) ?_))
  (first | (refine AL.noV rfl rfl rfl rfl ?_) | (refine AL.noU rfl ⟨_, rfl, rfl⟩ rfl ?_) | (refine AL.rpy rfl rfl rfl (rp_pick rfl rfl rfl) ?_))
  refine AL.rp rfl rfl (rp_pick rfl rfl rfl) ?_
  refine AL.rp rfl rfl (rp_move rfl rfl) ?_
  (first | (refine AL.noV rfl rfl rfl rfl ?_) | (refine AL.noU rfl ⟨_, rfl, rfl⟩ rfl ?_) | (refine AL.rpy rfl rfl rfl (rp_move rfl rfl) ?_))
  (first | (refine AL.noV rfl rfl rfl rfl ?_) | (refine AL.noU rfl ⟨_, rfl, rfl⟩ rfl ?_) | (refine AL.rpy rfl rfl rfl (rp_move rfl rfl) ?_))
  (first | (refine AL.noV rfl rfl rfl rfl ?_) | (refine AL.noU rfl ⟨_, rfl, rfl⟩ rfl ?_) | (refine AL.rpy rfl rfl rfl (rp_field_ref Tryd.underlying60 rfl rfl rfl inf3 (by decide) rfl) ?_) | (refine AL.rpy rfl rfl rfl (rp_field_ad Tryd.underlying60 rfl rfl rfl inf3 (by decide) rfl) ?_))
  (first | (refine AL.noV rfl rfl rfl rfl ?_) | (refine AL.noU rfl ⟨_, rfl, rfl⟩ rfl ?_) | (refine AL.rdy rfl rfl rfl (rd_load_ref Tryd.underlying3 rfl rfl rfl rfl rfl rfl) ?_) | (refine AL.rdy rfl rfl rfl (rd_load_ad Tryd.underlying3 rfl rfl rfl rfl) ?_) | (refine AL.rdy rfl rfl rfl (rd_load_map Tryd.underlying3 rfl rfl rfl rfl rfl rfl (by assumption)) ?_) | (refine AL.rdy rfl rfl rfl (rd_load_flat Tryd.underlying3 rfl rfl rfl rfl rfl rfl (fun _ => rfl) (by assumption) rfl) ?_))
  (first | (refine AL.no rfl rfl rfl rfl ?_) | (refine AL.noU rfl ⟨_, rfl, rfl⟩ rfl ?_) | (refine AL.cally (post := ?pc108) rfl rfl (sm_call (args := [_, _, _]) ?hc108 ⟨Tryd.func47, rfl, rfl, rfl, rfl⟩ rfl rfl rfl rfl) ?_; (case hc108 => (first | (refine Fn.decT (am_In _ _ _) ?_; omega) | (refine Fn.decF (am_In _ _ _) ?_; omega) | exact am_In _ _ _)); rintro _ rfl -; try dsimp only))
  (first | (refine AL.noV rfl rfl rfl rfl ?_) | (refine AL.noU rfl ⟨_, rfl, rfl⟩ rfl ?_) | (refine AL.rpy rfl rfl rfl (rp_not rfl rfl) ?_))
  (first | (refine AL.noV rfl rfl rfl rfl ?_) | (refine AL.noU rfl ⟨_, rfl, rfl⟩ rfl ?_) | (refine AL.rpy rfl rfl rfl (rp_pick rfl rfl rfl) ?_))
  refine AL.rp rfl rfl (rp_pick rfl rfl rfl) ?_
  refine AL.nil ?_
  try simp only [thenS, S.put, S.newObj, setL, V.cs, List.length_cons, List.length_nil, List.take_succ_cons, List.take_zero, List.drop_succ_cons, List.drop_zero, List.drop_nil, List.nil_append, List.cons_append, List.append_nil, Nat.zero_add, Nat.reduceAdd, List.map_cons, List.map_nil, List.set_cons_zero, List.set_cons_succ]
  refine AW.condF rfl ?_
  refine AW.skip ?_
  try simp only [thenS]
  refine AW.seq ?_
  refine AW.seq ?_
  refine AW.region ?_
  refine AL.rp rfl rfl (rp_move rfl rfl) ?_
  refine AL.rp rfl rfl (rp_move rfl rfl) ?_
  (first | (refine AL.noV rfl rfl rfl rfl ?_) | (refine AL.noU rfl ⟨_, rfl, rfl⟩ rfl ?_) | (refine AL.rpy rfl rfl rfl (rp_field_ref Tryd.underlying60 rfl rfl rfl inf9 (by decide) rfl) ?_) | (refine AL.rpy rfl rfl rfl (rp_field_ad Tryd.underlying60 rfl rfl rfl inf9 (by decide) rfl) ?_))
  (first | (refine AL.noV rfl rfl rfl rfl ?_) | (refine AL.noU rfl ⟨_, rfl, rfl⟩ rfl ?_) | (refine AL.rdy rfl rfl rfl (rd_load_ref Tryd.underlying9 rfl rfl rfl rfl rfl rfl) ?_) | (refine AL.rdy rfl rfl rfl (rd_load_ad Tryd.underlying9 rfl rfl rfl rfl) ?_) | (refine AL.rdy rfl rfl rfl (rd_load_map Tryd.underlying9 rfl rfl rfl rfl rfl rfl (by assumption)) ?_) | (refine AL.rdy rfl rfl rfl (rd_load_flat Tryd.underlying9 rfl rfl rfl rfl rfl rfl (fun _ => rfl) (by assumption) rfl) ?_))
  (first | (refine AL.no rfl rfl rfl rfl ?_) | (refine AL.noU rfl ⟨_, rfl, rfl⟩ rfl ?_) | (refine AL.cally (post := ?pc109) rfl rfl (sm_call (args := [_]) ?hc109 ⟨Tryd.func48, rfl, rfl, rfl, rfl⟩ rfl rfl rfl rfl) ?_; (case hc109 => (first | assumption | exact am_NameMay _)); rintro _ rfl -; try dsimp only))
  (first | (refine AL.noV rfl rfl rfl rfl ?_) | (refine AL.noU rfl ⟨_, rfl, rfl⟩ rfl ?_) | (refine AL.rpy rfl rfl rfl (rp_not rfl rfl) ?_))
  refine AL.rp rfl rfl (rp_pick rfl rfl rfl) ?_
  refine AL.nil ?_
  try simp only [thenS, S.put, S.newObj, setL, V.cs, List.length_cons, List.length_nil, List.take_succ_cons, List.take_zero, List.drop_succ_cons, List.drop_zero, List.drop_nil, List.nil_append, List.cons_append, List.append_nil, Nat.zero_add, Nat.reduceAdd, List.map_cons, List.map_nil, List.set_cons_zero, List.set_cons_succ]
  refine AW.condF rfl ?_
  refine AW.skip ?_
  try simp only [thenS]
  refine AW.seq ?_
  refine AW.seq ?_
  refine AW.region ?_
  refine AL.rp rfl rfl (rp_move rfl rfl) ?_
  refine AL.rp rfl rfl (rp_not rfl rfl) ?_
  refine AL.rp rfl rfl (rp_move rfl rfl) ?_
  (first | (refine AL.noV rfl rfl rfl rfl ?_) | (refine AL.noU rfl ⟨_, rfl, rfl⟩ rfl ?_) | (refine AL.rpy rfl rfl rfl (rp_field_ref Tryd.underlying60 rfl rfl rfl inf3 (by decide) rfl) ?_) | (refine AL.rpy rfl rfl rfl (rp_field_ad Tryd.underlying60 rfl rfl rfl inf3 (by decide) rfl) ?_))
  (first | (refine AL.noV rfl rfl rfl rfl ?_) | (refine AL.noU rfl ⟨_, rfl, rfl⟩ rfl ?_) | (refine AL.rdy rfl rfl rfl (rd_load_ref Tryd.underlying3 rfl rfl rfl rfl rfl rfl) ?_) | (refine AL.rdy rfl rfl rfl (rd_load_ad Tryd.underlying3 rfl rfl rfl rfl) ?_) | (refine AL.rdy rfl rfl rfl (rd_load_map Tryd.underlying3 rfl rfl rfl rfl rfl rfl (by assumption)) ?_) | (refine AL.rdy rfl rfl rfl (rd_load_flat Tryd.underlying3 rfl rfl rfl rfl rfl rfl (fun _ => rfl) (by assumption) rfl) ?_))
  (first | (refine AL.noV rfl rfl rfl rfl ?_) | (refine AL.noU rfl ⟨_, rfl, rfl⟩ rfl ?_) | (refine AL.rpy rfl rfl rfl (rp_neqT rfl rfl rfl (by first | assumption | omega | (dsimp only; omega))) ?_) | (refine AL.rpy rfl rfl rfl (rp_neqF rfl rfl rfl (by first | assumption | omega | (dsimp only; omega))) ?_) | (refine AL.rpy rfl rfl rfl (rp_neq rfl rfl rfl) ?_))
  refine AL.rp rfl rfl (rp_pick rfl rfl rfl) ?_
  refine AL.rp rfl rfl (rp_move rfl rfl) ?_
  (first | (refine AL.noV rfl rfl rfl rfl ?_) | (refine AL.noU rfl ⟨_, rfl, rfl⟩ rfl ?_) | (refine AL.rpy rfl rfl rfl (rp_move rfl rfl) ?_))
  (first | (refine AL.noV rfl rfl rfl rfl ?_) | (refine AL.noU rfl ⟨_, rfl, rfl⟩ rfl ?_) | (refine AL.rpy rfl rfl rfl (rp_not rfl rfl) ?_))
  (first | (refine AL.noV rfl rfl rfl rfl ?_) | (refine AL.noU rfl ⟨_, rfl, rfl⟩ rfl ?_) | (refine AL.rpy rfl rfl rfl (rp_move rfl rfl) ?_))
  (first | (refine AL.noV rfl rfl rfl rfl ?_) | (refine AL.noU rfl ⟨_, rfl, rfl⟩ rfl ?_) | (refine AL.rpy rfl rfl rfl (rp_field_ref Tryd.underlying60 rfl rfl rfl inf3 (by decide) rfl) ?_) | (refine AL.rpy rfl rfl rfl (rp_field_ad Tryd.underlying60 rfl rfl rfl inf3 (by decide) rfl) ?_))
  (first | (refine AL.noV rfl rfl rfl rfl ?_) | (refine AL.noU rfl ⟨_, rfl, rfl⟩ rfl ?_) | (refine AL.rdy rfl rfl rfl (rd_load_ref Tryd.underlying3 rfl rfl rfl rfl rfl rfl) ?_) | (refine AL.rdy rfl rfl rfl (rd_load_ad Tryd.underlying3 rfl rfl rfl rfl) ?_) | (refine AL.rdy rfl rfl rfl (rd_load_map Tryd.underlying3 rfl rfl rfl rfl rfl rfl (by assumption)) ?_) | (refine AL.rdy rfl rfl rfl (rd_load_flat Tryd.underlying3 rfl rfl rfl rfl rfl rfl (fun _ => rfl) (by assumption) rfl) ?_))
  (first | (refine AL.noV rfl rfl rfl rfl ?_) | (refine AL.noU rfl ⟨_, rfl, rfl⟩ rfl ?_) | (refine AL.rpy rfl rfl rfl (rp_neqT rfl rfl rfl (by first | assumption | omega | (dsimp only; omega))) ?_) | (refine AL.rpy rfl rfl rfl (rp_neqF rfl rfl rfl (by first | assumption | omega | (dsimp only; omega))) ?_) | (refine AL.rpy rfl rfl rfl (rp_neq rfl rfl rfl) ?_))
  (first | (refine AL.noV rfl rfl rfl rfl ?_) | (refine AL.noU rfl ⟨_, rfl, rfl⟩ rfl ?_) | (refine AL.rpy rfl rfl rfl (rp_pick rfl rfl rfl) ?_))
  refine AL.rp rfl rfl (rp_pick rfl rfl rfl) ?_
  refine AL.rp rfl rfl (rp_move rfl rfl) ?_
  (first | (refine AL.noV rfl rfl rfl rfl ?_) | (refine AL.noU rfl ⟨_, rfl, rfl⟩ rfl ?_) | (refine AL.rpy rfl rfl rfl (rp_move rfl rfl) ?_))
  (first | (refine AL.noV rfl rfl rfl rfl ?_) | (refine AL.noU rfl ⟨_, rfl, rfl⟩ rfl ?_) | (refine AL.rpy rfl rfl rfl (rp_not rfl rfl) ?_))
  (first | (refine AL.noV rfl rfl rfl rfl ?_) | (refine AL.noU rfl ⟨_, rfl, rfl⟩ rfl ?_) | (refine AL.rpy rfl rfl rfl (rp_move rfl rfl) ?_))
  (first | (refine AL.noV rfl rfl rfl rfl ?_) | (refine AL.noU rfl ⟨_, rfl, rfl⟩ rfl ?_) | (refine AL.rpy rfl rfl rfl (rp_field_ref Tryd.underlying60 rfl rfl rfl inf3 (by decide) rfl) ?_) | (refine AL.rpy rfl rfl rfl (rp_field_ad Tryd.underlying60 rfl rfl rfl inf3 (by decide) rfl) ?_))
  (first | (refine AL.noV rfl rfl rfl rfl ?_) | (refine AL.noU rfl ⟨_, rfl, rfl⟩ rfl ?_) | (refine AL.rdy rfl rfl rfl (rd_load_ref Tryd.underlying3 rfl rfl rfl rfl rfl rfl) ?_) | (refine AL.rdy rfl rfl rfl (rd_load_ad Tryd.underlying3 rfl rfl rfl rfl) ?_) | (refine AL.rdy rfl rfl rfl (rd_load_map Tryd.underlying3 rfl rfl rfl rfl rfl rfl (by assumption)) ?_) | (refine AL.rdy rfl rfl rfl (rd_load_flat Tryd.underlying3 rfl rfl rfl rfl rfl rfl (fun _ => rfl) (by assumption) rfl) ?_))
  (first | (refine AL.noV rfl rfl rfl rfl ?_) | (refine AL.noU rfl ⟨_, rfl, rfl⟩ rfl ?_) | (refine AL.rpy rfl rfl rfl (rp_neqT rfl rfl rfl (by first | assumption | omega | (dsimp only; omega))) ?_) | (refine AL.rpy rfl rfl rfl (rp_neqF rfl rfl rfl (by first | assumption | omega | (dsimp only; omega))) ?_) | (refine AL.rpy rfl rfl rfl (rp_neq rfl rfl rfl) ?_))
  (first | (refine AL.noV rfl rfl rfl rfl ?_) | (refine AL.noU rfl ⟨_, rfl, rfl⟩ rfl ?_) | (refine AL.rpy rfl rfl rfl (rp_pick rfl rfl rfl) ?_))
  refine AL.rp rfl rfl (rp_pick rfl rfl rfl) ?_
  refine AL.rp rfl rfl (rp_move rfl rfl) ?_
  (first | (refine AL.noV rfl rfl rfl rfl ?_) | (refine AL.noU rfl ⟨_, rfl, rfl⟩ rfl ?_) | (refine AL.rpy rfl rfl rfl (rp_move rfl rfl) ?_))
  (first | (refine AL.noV rfl rfl rfl rfl ?_) | (refine AL.noU rfl ⟨_, rfl, rfl⟩ rfl ?_) | (refine AL.rpy rfl rfl rfl (rp_not rfl rfl) ?_))
  (first | (refine AL.noV rfl rfl rfl rfl ?_) | (refine AL.noU rfl ⟨_, rfl, rfl⟩ rfl ?_) | (refine AL.rpy rfl rfl rfl (rp_move rfl rfl) ?_))
  (first | (refine AL.noV rfl rfl rfl rfl ?_) | (refine AL.noU rfl ⟨_, rfl, rfl⟩ rfl ?_) | (refine AL.rpy rfl rfl rfl (rp_field_ref Tryd.underlying60 rfl rfl rfl inf9 (by decide) rfl) ?_) | (refine AL.rpy rfl rfl rfl (rp_field_ad Tryd.underlying60 rfl rfl rfl inf9 (by decide) rfl) ?_))
  (first | (refine AL.noV rfl rfl rfl rfl ?_) | (refine AL.noU rfl ⟨_, rfl, rfl⟩ rfl ?_) | (refine AL.rdy rfl rfl rfl (rd_load_ref Tryd.underlying9 rfl rfl rfl rfl rfl rfl) ?_) | (refine AL.rdy rfl rfl rfl (rd_load_ad Tryd.underlying9 rfl rfl rfl rfl) ?_) | (refine AL.rdy rfl rfl rfl (rd_load_map Tryd.underlying9 rfl rfl rfl rfl rfl rfl (by assumption)) ?_) | (refine AL.rdy rfl rfl rfl (rd_load_flat Tryd.underlying9 rfl rfl rfl rfl rfl rfl (fun _ => rfl) (by assumption) rfl) ?_))
  (first | (refine AL.noV rfl rfl rfl rfl ?_) | (refine AL.noU rfl ⟨_, rfl, rfl⟩ rfl ?_) | (refine AL.rpy rfl rfl rfl (rp_neqsF rfl rfl rfl (by assumption)) ?_) | (refine AL.rpy rfl rfl rfl (rp_neqsT rfl rfl rfl (by assumption)) ?_) | (refine AL.rpy rfl rfl rfl (rp_neqs rfl rfl rfl) ?_))
  (first | (refine AL.noV rfl rfl rfl rfl ?_) | (refine AL.noU rfl ⟨_, rfl, rfl⟩ rfl ?_) | (refine AL.rpy rfl rfl rfl (rp_pick rfl rfl rfl) ?_))
  refine AL.rp rfl rfl (rp_pick rfl rfl rfl) ?_
  refine AL.nil ?_
  try simp only [thenS, S.put]
  refine AW.condT rfl ?_
  refine AW.seq ?_
  refine AW.region ?_
  refine AL.rp rfl rfl (rp_assign rfl rfl) ?_
  refine AL.rp rfl rfl (rp_assign rfl rfl) ?_
  refine AL.nil ?_
  try simp only [thenS, S.put]
  refine AW.ret ?_
  exact ⟨[_, _], ⟨rfl, rfl, trivial⟩, rfl, by simp [tupOf, V.pure, V.has, V.hasL]⟩
 by_cases zn : xn = ⟨#[]⟩
 rotate_left
 ·have hne : xn.data.toList ≠ (⟨#[]⟩ : ByteArray).data.toList := fun h => zn (ByteArray.ext (Array.toList_inj.1 h))
  have hE' : stE ⟨k, xt, xa, xb, xn⟩ = 3 := stE_f (k := k) (p := 2) rfl h1 h2 hp (by simp only [badR, hasT, hasA, hasB, rgOk]; simp; omega) (by simp [badN, hasN]) (by simp [badF, hasT, hasA, hasB, hasN, zn])
  rw [hE'] at hE
  obtain rfl : S1 = ⟨#[]⟩ := by rw [← hS]; unfold stS; rw [hE', if_neg (by decide)]
  subst hE
  refine Fn.intro (n := 111) ⟨Tryd.func28, rfl, rfl, rfl, rfl⟩ (by simp [V.pure, V.has, V.hasL]) (by simp) fun w0 out => ?_
  refine AW.seq ?_
  refine AW.region ?_
  refine AL.sm rfl (sm_box 1 rfl rfl rfl (by first | rfl | simp [S.clean, S.put, S.newObj, S.forget, V.has, V.hasL, junkIf, setL, V.cs, hasL_i, hasL_d, hasL_b, hasL_s, hasL_n, hasL_rep, hasL_flat, hasL_append, -List.map_set]) rfl) ?_
  refine AL.rp rfl rfl (rp_assign rfl rfl) ?_
  refine AL.rp rfl rfl (rp_assign rfl rfl) ?_
  refine AL.nil ?_
  try simp only [thenS, S.put, S.newObj, setL, V.cs, List.length_cons, List.length_nil, List.take_succ_cons, List.take_zero, List.drop_succ_cons, List.drop_zero, List.drop_nil, List.nil_append, List.cons_append, List.append_nil, Nat.zero_add, Nat.reduceAdd, List.map_cons, List.map_nil, List.set_cons_zero, List.set_cons_succ, enum]
  refine AW.seq ?_
  refine AW.region ?_
  (first | (refine AL.rp rfl rfl (rp_field_ref Tryd.underlying60 rfl rfl rfl inf3 (by decide) rfl) ?_) | (refine AL.rp rfl rfl (rp_field_ad Tryd.underlying60 rfl rfl rfl inf3 (by decide) rfl) ?_))
  (first | (refine AL.rd rfl rfl (rd_load_ref Tryd.underlying3 rfl rfl rfl rfl rfl rfl) ?_) | (refine AL.rd rfl rfl (rd_load_ad Tryd.underlying3 rfl rfl rfl rfl) ?_) | (refine AL.rd rfl rfl (rd_load_map Tryd.underlying3 rfl rfl rfl rfl rfl rfl (by assumption)) ?_) | (refine AL.rd rfl rfl (rd_load_flat Tryd.underlying3 rfl rfl rfl rfl rfl rfl (fun _ => rfl) (by assumption) rfl) ?_))
  refine AL.call (post := ?pc110) rfl (sm_call (args := [_]) ?hc110 ⟨Tryd.func52, rfl, rfl, rfl, rfl⟩ rfl rfl rfl rfl) ?_
  case hc110 => exact hsw
  rintro _ rfl -
  try dsimp only
  refine AL.rp rfl rfl (rp_move rfl rfl) ?_
  refine AL.rp rfl rfl (rp_extract rfl rfl rfl) ?_
  refine AL.rp rfl rfl (rp_extract rfl rfl rfl) ?_
  refine AL.rp rfl rfl (rp_extract rfl rfl rfl) ?_
  refine AL.rp rfl rfl (rp_extract rfl rfl rfl) ?_
  refine AL.rp rfl rfl (rp_extract rfl rfl rfl) ?_
  refine AL.rp rfl rfl (rp_assign rfl rfl) ?_
  refine AL.rp rfl rfl (rp_assign rfl rfl) ?_
  refine AL.rp rfl rfl (rp_assign rfl rfl) ?_
  refine AL.rp rfl rfl (rp_assign rfl rfl) ?_
  refine AL.rp rfl rfl (rp_assign rfl rfl) ?_
  refine AL.nil ?_
  try simp only [thenS, S.put, S.newObj, setL, V.cs, List.length_cons, List.length_nil, List.take_succ_cons, List.take_zero, List.drop_succ_cons, List.drop_zero, List.drop_nil, List.nil_append, List.cons_append, List.append_nil, Nat.zero_add, Nat.reduceAdd, List.map_cons, List.map_nil, List.set_cons_zero, List.set_cons_succ]
  refine AW.seq ?_
  refine AW.seq ?_
  refine AW.region ?_
  refine AL.rp rfl rfl (rp_move rfl rfl) ?_
  (first | (refine AL.rp rfl rfl (rp_eqlsT rfl rfl rfl (by assumption)) ?_) | (refine AL.rp rfl rfl (rp_eqlsF rfl rfl rfl (by assumption)) ?_) | (refine AL.rp rfl rfl (rp_eqls rfl rfl rfl) ?_))
  refine AL.nil ?_
  try simp only [thenS, S.put]
  refine AW.condF rfl ?_
  refine AW.skip ?_
  try simp only [thenS]
  refine AW.seq ?_
  refine AW.seq ?_
  refine AW.region ?_
  refine AL.rp rfl rfl (rp_move rfl rfl) ?_
  refine AL.rp rfl rfl (rp_move rfl rfl) ?_
  (first | (refine AL.noV rfl rfl rfl rfl ?_) | (refine AL.noU rfl ⟨_, rfl, rfl⟩ rfl ?_) | (refine AL.rpy rfl rfl rfl (rp_field_ref Tryd.underlying60 rfl rfl rfl inf3 (by decide) rfl) ?_) | (refine AL.rpy rfl rfl rfl (rp_field_ad Tryd.underlying60 rfl rfl rfl inf3 (by decide) rfl) ?_))
  (first | (refine AL.noV rfl rfl rfl rfl ?_) | (refine AL.noU rfl ⟨_, rfl, rfl⟩ rfl ?_) | (refine AL.rdy rfl rfl rfl (rd_load_ref Tryd.underlying3 rfl rfl rfl rfl rfl rfl) ?_) | (refine AL.rdy rfl rfl rfl (rd_load_ad Tryd.underlying3 rfl rfl rfl rfl) ?_) | (refine AL.rdy rfl rfl rfl (rd_load_map Tryd.underlying3 rfl rfl rfl rfl rfl rfl (by assumption)) ?_) | (refine AL.rdy rfl rfl rfl (rd_load_flat Tryd.underlying3 rfl rfl rfl rfl rfl rfl (fun _ => rfl) (by assumption) rfl) ?_))
  (first | (refine AL.no rfl rfl rfl rfl ?_) | (refine AL.noU rfl ⟨_, rfl, rfl⟩ rfl ?_) | (refine AL.cally (post := ?pc111) rfl rfl (sm_call (args := [_, _, _]) ?hc111 ⟨Tryd.func47, rfl, rfl, rfl, rfl⟩ rfl rfl rfl rfl) ?_; (case hc111 => (first | (refine Fn.decT (am_In _ _ _) ?_; omega) | (refine Fn.decF (am_In _ _ _) ?_; omega) | exact am_In _ _ _)); rintro _ rfl -; try dsimp only))
  (first | (refine AL.noV rfl rfl rfl rfl ?_) | (refine AL.noU rfl ⟨_, rfl, rfl⟩ rfl ?_) | (refine AL.rpy rfl rfl rfl (rp_not rfl rfl) ?_))
  refine AL.rp rfl rfl (rp_pick rfl rfl rfl) ?_
  refine AL.rp rfl rfl (rp_move rfl rfl) ?_
  (first | (refine AL.noV rfl rfl rfl rfl ?_) | (refine AL.noU rfl ⟨_, rfl, rfl⟩ rfl ?_) | (refine AL.rpy rfl rfl rfl (rp_move rfl rfl) ?_))
  (first | (refine AL.noV rfl rfl rfl rfl ?_) | (refine AL.noU rfl ⟨_, rfl, rfl⟩ rfl ?_) | (refine AL.rpy rfl rfl rfl (rp_move rfl rfl) ?_))
  (first | (refine AL.noV rfl rfl rfl rfl ?_) | (refine AL.noU rfl ⟨_, rfl, rfl⟩ rfl ?_) | (refine AL.rpy rfl rfl rfl (rp_field_ref Tryd.underlying60 rfl rfl rfl inf3 (by decide) rfl) ?_) | (refine AL.rpy rfl rfl rfl (rp_field_ad Tryd.underlying60 rfl rfl rfl inf3 (by decide) rfl) ?_))
  (first | (refine AL.noV rfl rfl rfl rfl ?_) | (refine AL.noU rfl ⟨_, rfl, rfl⟩ rfl ?_) | (refine AL.rdy rfl rfl rfl (rd_load_ref Tryd.underlying3 rfl rfl rfl rfl rfl rfl) ?_) | (refine AL.rdy rfl rfl rfl (rd_load_ad Tryd.underlying3 rfl rfl rfl rfl) ?_) | (refine AL.rdy rfl rfl rfl (rd_load_map Tryd.underlying3 rfl rfl rfl rfl rfl rfl (by assumption)) ?_) | (refine AL.rdy rfl rfl rfl (rd_load_flat Tryd.underlying3 rfl rfl rfl rfl rfl rfl (fun _ => rfl) (by assumption) rfl) ?_))
  (first | (refine AL.no rfl rfl rfl rfl ?_) | (refine AL.noU rfl ⟨_, rfl, rfl⟩ rfl ?_) | (refine AL.cally (post := ?pc112) rfl rfl (sm_call (args := [_, _, _]) ?hc112 ⟨Tryd.func47, rfl, rfl, rfl, rfl⟩ rfl rfl rfl rfl) ?_; (case hc112 => (first | (refine Fn.decT (am_In _ _ _) ?_; omega) | (refine Fn.decF (am_In _ _ _) ?_; omega) | exact am_In _ _ _)); rintro _ rfl -; try dsimp only))
  (first | (refine AL.noV rfl rfl rfl rfl ?_) | (refine AL.noU rfl ⟨_, rfl, rfl⟩ rfl ?_) | (refine AL.rpy rfl rfl rfl (rp_not rfl rfl) ?_))
  (first | (refine AL.noV rfl rfl rfl rfl ?_) | (refine AL.noU rfl ⟨_, rfl, rfl⟩ rfl ?_) | (refine AL.rpy rfl rfl rfl (rp_pick rfl rfl rfl) ?_))
  refine AL.rp rfl rfl (rp_pick rfl rfl rfl) ?_
  refine AL.rp rfl rfl (rp_move rfl rfl) ?_
  (first | (refine AL.noV rfl rfl rfl rfl ?_) | (refine AL.noU rfl ⟨_, rfl, rfl⟩ rfl ?_) | (refine AL.rpy rfl rfl rfl (rp_move rfl rfl) ?_))
  (first | (refine AL.noV rfl rfl rfl rfl ?_) | (refine AL.noU rfl ⟨_, rfl, rfl⟩ rfl ?_) | (refine AL.rpy rfl rfl rfl (rp_move rfl rfl) ?_))
  (first | (refine AL.noV rfl rfl rfl rfl ?_) | (refine AL.noU rfl ⟨_, rfl, rfl⟩ rfl ?_) | (refine AL.rpy rfl rfl rfl (rp_field_ref Tryd.underlying60 rfl rfl rfl inf3 (by decide) rfl) ?_) | (refine AL.rpy rfl rfl rfl (rp_field_ad Tryd.underlying60 rfl rfl rfl inf3 (by decide) rfl) ?_))
  (first | (refine AL.noV rfl rfl rfl rfl ?_) | (refine AL.noU rfl ⟨_, rfl, rfl⟩ rfl ?_) | (refine AL.rdy rfl rfl rfl (rd_load_ref Tryd.underlying3 rfl rfl rfl rfl rfl rfl) ?_) | (refine AL.rdy rfl rfl rfl (rd_load_ad Tryd.underlying3 rfl rfl rfl rfl) ?_) | (refine AL.rdy rfl rfl rfl (rd_load_map Tryd.underlying3 rfl rfl rfl rfl rfl rfl (by assumption)) ?_) | (refine AL.rdy rfl rfl rfl (rd_load_flat Tryd.underlying3 rfl rfl rfl rfl rfl rfl (fun _ => rfl) (by assumption) rfl) ?_))
  (first | (refine AL.no rfl rfl rfl rfl ?_) | (refine AL.noU rfl ⟨_, rfl, rfl⟩ rfl ?_) | (refine AL.cally (post := ?pc113) rfl rfl (sm_call (args := [_, _, _]) ?hc113 ⟨Tryd.func47, rfl, rfl, rfl, rfl⟩ rfl rfl rfl rfl) ?_; (case hc113 => (first | (refine Fn.decT (am_In _ _ _) ?_; omega) | (refine Fn.decF (am_In _ _ _) ?_; omega) | exact am_In _ _ _)); rintro _ rfl -; try dsimp only))
  (first | (refine AL.noV rfl rfl rfl rfl ?_) | (refine AL.noU rfl ⟨_, rfl, rfl⟩ rfl ?_) | (refine AL.rpy rfl rfl rfl (rp_not rfl rfl) ?_))
  (first | (refine AL.noV rfl rfl rfl rfl ?_) | (refine AL.noU rfl ⟨_, rfl, rfl⟩ rfl ?_) | (refine AL.rpy rfl rfl rfl (rp_pick rfl rfl rfl) ?_))
  refine AL.rp rfl rfl (rp_pick rfl rfl rfl) ?_
  refine AL.nil ?_
  try simp only [thenS, S.put, S.newObj, setL, V.cs, List.length_cons, List.length_nil, List.take_succ_cons, List.take_zero, List.drop_succ_cons, List.drop_zero, List.drop_nil, List.nil_append, List.cons_append, List.append_nil, Nat.zero_add, Nat.reduceAdd, List.map_cons, List.map_nil, List.set_cons_zero, List.set_cons_succ]
  refine AW.condF rfl ?_
  refine AW.skip ?_
  try simp only [thenS]
  refine AW.seq ?_
  refine AW.seq ?_
  refine AW.region ?_
  refine AL.rp rfl rfl (rp_move rfl rfl) ?_
  refine AL.rp rfl rfl (rp_move rfl rfl) ?_
  (first | (refine AL.noV rfl rfl rfl rfl ?_) | (refine AL.noU rfl ⟨_, rfl, rfl⟩ rfl ?_) | (refine AL.rpy rfl rfl rfl (rp_field_ref Tryd.underlying60 rfl rfl rfl inf9 (by decide) rfl) ?_) | (refine AL.rpy rfl rfl rfl (rp_field_ad Tryd.underlying60 rfl rfl rfl inf9 (by decide) rfl) ?_))
  (first | (refine AL.noV rfl rfl rfl rfl ?_) | (refine AL.noU rfl ⟨_, rfl, rfl⟩ rfl ?_) | (refine AL.rdy rfl rfl rfl (rd_load_ref Tryd.underlying9 rfl rfl rfl rfl rfl rfl) ?_) | (refine AL.rdy rfl rfl rfl (rd_load_ad Tryd.underlying9 rfl rfl rfl rfl) ?_) | (refine AL.rdy rfl rfl rfl (rd_load_map Tryd.underlying9 rfl rfl rfl rfl rfl rfl (by assumption)) ?_) | (refine AL.rdy rfl rfl rfl (rd_load_flat Tryd.underlying9 rfl rfl rfl rfl rfl rfl (fun _ => rfl) (by assumption) rfl) ?_))
  (first | (refine AL.no rfl rfl rfl rfl ?_) | (refine AL.noU rfl ⟨_, rfl, rfl⟩ rfl ?_) | (refine AL.cally (post := ?pc114) rfl rfl (sm_call (args := [_]) ?hc114 ⟨Tryd.func48, rfl, rfl, rfl, rfl⟩ rfl rfl rfl rfl) ?_; (case hc114 => (first | assumption | exact am_NameMay _)); rintro _ rfl -; try dsimp only))
  (first | (refine AL.noV rfl rfl rfl rfl ?_) | (refine AL.noU rfl ⟨_, rfl, rfl⟩ rfl ?_) | (refine AL.rpy rfl rfl rfl (rp_not rfl rfl) ?_))
  refine AL.rp rfl rfl (rp_pick rfl rfl rfl) ?_
  refine AL.nil ?_
  try simp only [thenS, S.put, S.newObj, setL, V.cs, List.length_cons, List.length_nil, List.take_succ_cons, List.take_zero, List.drop_succ_cons, List.drop_zero, List.drop_nil, List.nil_append, List.cons_append, List.append_nil, Nat.zero_add, Nat.reduceAdd, List.map_cons, List.map_nil, List.set_cons_zero, List.set_cons_succ]
  refine AW.condF rfl ?_
  refine AW.skip ?_
  try simp only [thenS]
  refine AW.seq ?_
  refine AW.seq ?_
  refine AW.region ?_
  refine AL.rp rfl rfl (rp_move rfl rfl) ?_
  refine AL.rp rfl rfl (rp_not rfl rfl) ?_
  refine AL.rp rfl rfl (rp_move rfl rfl) ?_
  (first | (refine AL.noV rfl rfl rfl rfl ?_) | (refine AL.noU rfl ⟨_, rfl, rfl⟩ rfl ?_) | (refine AL.rpy rfl rfl rfl (rp_field_ref Tryd.underlying60 rfl rfl rfl inf3 (by decide) rfl) ?_) | (refine AL.rpy rfl rfl rfl (rp_field_ad Tryd.underlying60 rfl rfl rfl inf3 (by decide) rfl) ?_))
  (first | (refine AL.noV rfl rfl rfl rfl ?_) | (refine AL.noU rfl ⟨_, rfl, rfl⟩ rfl ?_) | (refine AL.rdy rfl rfl rfl (rd_load_ref Tryd.underlying3 rfl rfl rfl rfl rfl rfl) ?_) | (refine AL.rdy rfl rfl rfl (rd_load_ad Tryd.underlying3 rfl rfl rfl rfl) ?_) | (refine AL.rdy rfl rfl rfl (rd_load_map Tryd.underlying3 rfl rfl rfl rfl rfl rfl (by assumption)) ?_) | (refine AL.rdy rfl rfl rfl (rd_load_flat Tryd.underlying3 rfl rfl rfl rfl rfl rfl (fun _ => rfl) (by assumption) rfl) ?_))
  (first | (refine AL.noV rfl rfl rfl rfl ?_) | (refine AL.noU rfl ⟨_, rfl, rfl⟩ rfl ?_) | (refine AL.rpy rfl rfl rfl (rp_neqT rfl rfl rfl (by first | assumption | omega | (dsimp only; omega))) ?_) | (refine AL.rpy rfl rfl rfl (rp_neqF rfl rfl rfl (by first | assumption | omega | (dsimp only; omega))) ?_) | (refine AL.rpy rfl rfl rfl (rp_neq rfl rfl rfl) ?_))
  refine AL.rp rfl rfl (rp_pick rfl rfl rfl) ?_
  refine AL.rp rfl rfl (rp_move rfl rfl) ?_
  (first | (refine AL.noV rfl rfl rfl rfl ?_) | (refine AL.noU rfl ⟨_, rfl, rfl⟩ rfl ?_) | (refine AL.rpy rfl rfl rfl (rp_move rfl rfl) ?_))
  (first | (refine AL.noV rfl rfl rfl rfl ?_) | (refine AL.noU rfl ⟨_, rfl, rfl⟩ rfl ?_) | (refine AL.rpy rfl rfl rfl (rp_not rfl rfl) ?_))
  (first | (refine AL.noV rfl rfl rfl rfl ?_) | (refine AL.noU rfl ⟨_, rfl, rfl⟩ rfl ?_) | (refine AL.rpy rfl rfl rfl (rp_move rfl rfl) ?_))
  (first | (refine AL.noV rfl rfl rfl rfl ?_) | (refine AL.noU rfl ⟨_, rfl, rfl⟩ rfl ?_) | (refine AL.rpy rfl rfl rfl (rp_field_ref Tryd.underlying60 rfl rfl rfl inf3 (by decide) rfl) ?_) | (refine AL.rpy rfl rfl rfl (rp_field_ad Tryd.underlying60 rfl rfl rfl inf3 (by decide) rfl) ?_))
  (first | (refine AL.noV rfl rfl rfl rfl ?_) | (refine AL.noU rfl ⟨_, rfl, rfl⟩ rfl ?_) | (refine AL.rdy rfl rfl rfl (rd_load_ref Tryd.underlying3 rfl rfl rfl rfl rfl rfl) ?_) | (refine AL.rdy rfl rfl rfl (rd_load_ad Tryd.underlying3 rfl rfl rfl rfl) ?_) | (refine AL.rdy rfl rfl rfl (rd_load_map Tryd.underlying3 rfl rfl rfl rfl rfl rfl (by assumption)) ?_) | (refine AL.rdy rfl rfl rfl (rd_load_flat Tryd.underlying3 rfl rfl rfl rfl rfl rfl (fun _ => rfl) (by assumption) rfl) ?_))
  (first | (refine AL.noV rfl rfl rfl rfl ?_) | (refine AL.noU rfl ⟨_, rfl, rfl⟩ rfl ?_) | (refine AL.rpy rfl rfl rfl (rp_neqT rfl rfl rfl (by first | assumption | omega | (dsimp only; omega))) ?_) | (refine AL.rpy rfl rfl rfl (rp_neqF rfl rfl rfl (by first | assumption | omega | (dsimp only; omega))) ?_) | (refine AL.rpy rfl rfl rfl (rp_neq rfl rfl rfl) ?_))
  (first | (refine AL.noV rfl rfl rfl rfl ?_) | (refine AL.noU rfl ⟨_, rfl, rfl⟩ rfl ?_) | (refine AL.rpy rfl rfl rfl (rp_pick rfl rfl rfl) ?_))
  refine AL.rp rfl rfl (rp_pick rfl rfl rfl) ?_
  refine AL.rp rfl rfl (rp_move rfl rfl) ?_
  (first | (refine AL.noV rfl rfl rfl rfl ?_) | (refine AL.noU rfl ⟨_, rfl, rfl⟩ rfl ?_) | (refine AL.rpy rfl rfl rfl (rp_move rfl rfl) ?_))
  (first | (refine AL.noV rfl rfl rfl rfl ?_) | (refine AL.noU rfl ⟨_, rfl, rfl⟩ rfl ?_) | (refine AL.rpy rfl rfl rfl (rp_not rfl rfl) ?_))
  (first | (refine AL.noV rfl rfl rfl rfl ?_) | (refine AL.noU rfl ⟨_, rfl, rfl⟩ rfl ?_) | (refine AL.rpy rfl rfl rfl (rp_move rfl rfl) ?_))
  (first | (refine AL.noV rfl rfl rfl rfl ?_) | (refine AL.noU rfl ⟨_, rfl, rfl⟩ rfl ?_) | (refine AL.rpy rfl rfl rfl (rp_field_ref Tryd.underlying60 rfl rfl rfl inf3 (by decide) rfl) ?_) | (refine AL.rpy rfl rfl rfl (rp_field_ad Tryd.underlying60 rfl rfl rfl inf3 (by decide) rfl) ?_))
  (first | (refine AL.noV rfl rfl rfl rfl ?_) | (refine AL.noU rfl ⟨_, rfl, rfl⟩ rfl ?_) | (refine AL.rdy rfl rfl rfl (rd_load_ref Tryd.underlying3 rfl rfl rfl rfl rfl rfl) ?_) | (refine AL.rdy rfl rfl rfl (rd_load_ad Tryd.underlying3 rfl rfl rfl rfl) ?_) | (refine AL.rdy rfl rfl rfl (rd_load_map Tryd.underlying3 rfl rfl rfl rfl rfl rfl (by assumption)) ?_) | (refine AL.rdy rfl rfl rfl (rd_load_flat Tryd.underlying3 rfl rfl rfl rfl rfl rfl (fun _ => rfl) (by assumption) rfl) ?_))
  (first | (refine AL.noV rfl rfl rfl rfl ?_) | (refine AL.noU rfl ⟨_, rfl, rfl⟩ rfl ?_) | (refine AL.rpy rfl rfl rfl (rp_neqT rfl rfl rfl (by first | assumption | omega | (dsimp only; omega))) ?_) | (refine AL.rpy rfl rfl rfl (rp_neqF rfl rfl rfl (by first | assumption | omega | (dsimp only; omega))) ?_) | (refine AL.rpy rfl rfl rfl (rp_neq rfl rfl rfl) ?_))
  (first | (refine AL.noV rfl rfl rfl rfl ?_) | (refine AL.noU rfl ⟨_, rfl, rfl⟩ rfl ?_) | (refine AL.rpy rfl rfl rfl (rp_pick rfl rfl rfl) ?_))
  refine AL.rp rfl rfl (rp_pick rfl rfl rfl) ?_
  refine AL.rp rfl rfl (rp_move rfl rfl) ?_
  (first | (refine AL.noV rfl rfl rfl rfl ?_) | (refine AL.noU rfl ⟨_, rfl, rfl⟩ rfl ?_) | (refine AL.rpy rfl rfl rfl (rp_move rfl rfl) ?_))
  (first | (refine AL.noV rfl rfl rfl rfl ?_) | (refine AL.noU rfl ⟨_, rfl, rfl⟩ rfl ?_) | (refine AL.rpy rfl rfl rfl (rp_not rfl rfl) ?_))
  (first | (refine AL.noV rfl rfl rfl rfl ?_) | (refine AL.noU rfl ⟨_, rfl, rfl⟩ rfl ?_) | (refine AL.rpy rfl rfl rfl (rp_move rfl rfl) ?_))
  (first | (refine AL.noV rfl rfl rfl rfl ?_) | (refine AL.noU rfl ⟨_, rfl, rfl⟩ rfl ?_) | (refine AL.rpy rfl rfl rfl (rp_field_ref Tryd.underlying60 rfl rfl rfl inf9 (by decide) rfl) ?_) | (refine AL.rpy rfl rfl rfl (rp_field_ad Tryd.underlying60 rfl rfl rfl inf9 (by decide) rfl) ?_))
  (first | (refine AL.noV rfl rfl rfl rfl ?_) | (refine AL.noU rfl ⟨_, rfl, rfl⟩ rfl ?_) | (refine AL.rdy rfl rfl rfl (rd_load_ref Tryd.underlying9 rfl rfl rfl rfl rfl rfl) ?_) | (refine AL.rdy rfl rfl rfl (rd_load_ad Tryd.underlying9 rfl rfl rfl rfl) ?_) | (refine AL.rdy rfl rfl rfl (rd_load_map Tryd.underlying9 rfl rfl rfl rfl rfl rfl (by assumption)) ?_) | (refine AL.rdy rfl rfl rfl (rd_load_flat Tryd.underlying9 rfl rfl rfl rfl rfl rfl (fun _ => rfl) (by assumption) rfl) ?_))
  (first | (refine AL.noV rfl rfl rfl rfl ?_) | (refine AL.noU rfl ⟨_, rfl, rfl⟩ rfl ?_) | (refine AL.rpy rfl rfl rfl (rp_neqsF rfl rfl rfl (by assumption)) ?_) | (refine AL.rpy rfl rfl rfl (rp_neqsT rfl rfl rfl (by assumption)) ?_) | (refine AL.rpy rfl rfl rfl (rp_neqs rfl rfl rfl) ?_))
  (first | (refine AL.noV rfl rfl rfl rfl ?_) | (refine AL.noU rfl ⟨_, rfl, rfl⟩ rfl ?_) | (refine AL.rpy rfl rfl rfl (rp_pick rfl rfl rfl) ?_))
  refine AL.rp rfl rfl (rp_pick rfl rfl rfl) ?_
  refine AL.nil ?_
  try simp only [thenS, S.put]
  refine AW.condT rfl ?_
  refine AW.seq ?_
  refine AW.region ?_
  refine AL.rp rfl rfl (rp_assign rfl rfl) ?_
  refine AL.rp rfl rfl (rp_assign rfl rfl) ?_
  refine AL.nil ?_
  try simp only [thenS, S.put]
  refine AW.ret ?_
  exact ⟨[_, _], ⟨rfl, rfl, trivial⟩, rfl, by simp [tupOf, V.pure, V.has, V.hasL]⟩
 have hE' : stE ⟨k, xt, xa, xb, xn⟩ = 0 := stE_ok (k := k) (p := 2) rfl h1 h2 hp (by simp only [badR, hasT, hasA, hasB, rgOk]; simp; omega) (by simp [badN, hasN]) (by simp [badF, hasT, hasA, hasB, hasN, zb, zn])
 rw [hE'] at hE
 subst hE
 have hS2 : stS ⟨k, xt, xa, xb, xn⟩ = lnK k ⟨k, xt, xa, xb, xn⟩ := by unfold stS; rw [hE', if_pos rfl, hkt]
 rw [hS2] at hS
 have htx : (wdK k ++ ltR xt ++ ltR xa ++ (⟨#[]⟩ : ByteArray)) ++ ⟨#[10]⟩ = S1 := by
  rw [← hS]
  simp [lnK, hp, hasT, hasA, hasB, hasN, ap_em, ByteArray.append_assoc]
 have hrt := am_registerT xt (by omega) (by omega)
 have hlt := ltR_size xt
 have hra := am_registerT xa (by omega) (by omega)
 have hla := ltR_size xa
 have hrb := am_registerF xb
 subst zn
 have hee : (⟨#[]⟩ : ByteArray) = ⟨#[]⟩ := rfl
 refine Fn.intro (n := 111) ⟨Tryd.func28, rfl, rfl, rfl, rfl⟩ (by simp [V.pure, V.has, V.hasL]) (by simp) fun w0 out => ?_
 refine AW.seq ?_
 refine AW.region ?_
 refine AL.sm rfl (sm_box 1 rfl rfl rfl (by first | rfl | simp [S.clean, S.put, S.newObj, S.forget, V.has, V.hasL, junkIf, setL, V.cs, hasL_i, hasL_d, hasL_b, hasL_s, hasL_n, hasL_rep, hasL_flat, hasL_append, -List.map_set]) rfl) ?_
 refine AL.rp rfl rfl (rp_assign rfl rfl) ?_
 refine AL.rp rfl rfl (rp_assign rfl rfl) ?_
 refine AL.nil ?_
 try simp only [thenS, S.put, S.newObj, setL, V.cs, List.length_cons, List.length_nil, List.take_succ_cons, List.take_zero, List.drop_succ_cons, List.drop_zero, List.drop_nil, List.nil_append, List.cons_append, List.append_nil, Nat.zero_add, Nat.reduceAdd, List.map_cons, List.map_nil, List.set_cons_zero, List.set_cons_succ, enum]
 refine AW.seq ?_
 refine AW.region ?_
 (first | (refine AL.rp rfl rfl (rp_field_ref Tryd.underlying60 rfl rfl rfl inf3 (by decide) rfl) ?_) | (refine AL.rp rfl rfl (rp_field_ad Tryd.underlying60 rfl rfl rfl inf3 (by decide) rfl) ?_))
 (first | (refine AL.rd rfl rfl (rd_load_ref Tryd.underlying3 rfl rfl rfl rfl rfl rfl) ?_) | (refine AL.rd rfl rfl (rd_load_ad Tryd.underlying3 rfl rfl rfl rfl) ?_) | (refine AL.rd rfl rfl (rd_load_map Tryd.underlying3 rfl rfl rfl rfl rfl rfl (by assumption)) ?_) | (refine AL.rd rfl rfl (rd_load_flat Tryd.underlying3 rfl rfl rfl rfl rfl rfl (fun _ => rfl) (by assumption) rfl) ?_))
 refine AL.call (post := ?pc115) rfl (sm_call (args := [_]) ?hc115 ⟨Tryd.func52, rfl, rfl, rfl, rfl⟩ rfl rfl rfl rfl) ?_
 case hc115 => exact hsw
 rintro _ rfl -
 try dsimp only
 refine AL.rp rfl rfl (rp_move rfl rfl) ?_
 refine AL.rp rfl rfl (rp_extract rfl rfl rfl) ?_
 refine AL.rp rfl rfl (rp_extract rfl rfl rfl) ?_
 refine AL.rp rfl rfl (rp_extract rfl rfl rfl) ?_
 refine AL.rp rfl rfl (rp_extract rfl rfl rfl) ?_
 refine AL.rp rfl rfl (rp_extract rfl rfl rfl) ?_
 refine AL.rp rfl rfl (rp_assign rfl rfl) ?_
 refine AL.rp rfl rfl (rp_assign rfl rfl) ?_
 refine AL.rp rfl rfl (rp_assign rfl rfl) ?_
 refine AL.rp rfl rfl (rp_assign rfl rfl) ?_
 refine AL.rp rfl rfl (rp_assign rfl rfl) ?_
 refine AL.nil ?_
 try simp only [thenS, S.put, S.newObj, setL, V.cs, List.length_cons, List.length_nil, List.take_succ_cons, List.take_zero, List.drop_succ_cons, List.drop_zero, List.drop_nil, List.nil_append, List.cons_append, List.append_nil, Nat.zero_add, Nat.reduceAdd, List.map_cons, List.map_nil, List.set_cons_zero, List.set_cons_succ]
 refine AW.seq ?_
 refine AW.seq ?_
 refine AW.region ?_
 refine AL.rp rfl rfl (rp_move rfl rfl) ?_
 (first | (refine AL.rp rfl rfl (rp_eqlsT rfl rfl rfl (by assumption)) ?_) | (refine AL.rp rfl rfl (rp_eqlsF rfl rfl rfl (by assumption)) ?_) | (refine AL.rp rfl rfl (rp_eqls rfl rfl rfl) ?_))
 refine AL.nil ?_
 try simp only [thenS, S.put]
 refine AW.condF rfl ?_
 refine AW.skip ?_
 try simp only [thenS]
 refine AW.seq ?_
 refine AW.seq ?_
 refine AW.region ?_
 refine AL.rp rfl rfl (rp_move rfl rfl) ?_
 refine AL.rp rfl rfl (rp_move rfl rfl) ?_
 (first | (refine AL.noV rfl rfl rfl rfl ?_) | (refine AL.noU rfl ⟨_, rfl, rfl⟩ rfl ?_) | (refine AL.rpy rfl rfl rfl (rp_field_ref Tryd.underlying60 rfl rfl rfl inf3 (by decide) rfl) ?_) | (refine AL.rpy rfl rfl rfl (rp_field_ad Tryd.underlying60 rfl rfl rfl inf3 (by decide) rfl) ?_))
 (first | (refine AL.noV rfl rfl rfl rfl ?_) | (refine AL.noU rfl ⟨_, rfl, rfl⟩ rfl ?_) | (refine AL.rdy rfl rfl rfl (rd_load_ref Tryd.underlying3 rfl rfl rfl rfl rfl rfl) ?_) | (refine AL.rdy rfl rfl rfl (rd_load_ad Tryd.underlying3 rfl rfl rfl rfl) ?_) | (refine AL.rdy rfl rfl rfl (rd_load_map Tryd.underlying3 rfl rfl rfl rfl rfl rfl (by assumption)) ?_) | (refine AL.rdy rfl rfl rfl (rd_load_flat Tryd.underlying3 rfl rfl rfl rfl rfl rfl (fun _ => rfl) (by assumption) rfl) ?_))
 (first | (refine AL.no rfl rfl rfl rfl ?_) | (refine AL.noU rfl ⟨_, rfl, rfl⟩ rfl ?_) | (refine AL.cally (post := ?pc116) rfl rfl (sm_call (args := [_, _, _]) ?hc116 ⟨Tryd.func47, rfl, rfl, rfl, rfl⟩ rfl rfl rfl rfl) ?_; (case hc116 => (first | (refine Fn.decT (am_In _ _ _) ?_; omega) | (refine Fn.decF (am_In _ _ _) ?_; omega) | exact am_In _ _ _)); rintro _ rfl -; try dsimp only))
 (first | (refine AL.noV rfl rfl rfl rfl ?_) | (refine AL.noU rfl ⟨_, rfl, rfl⟩ rfl ?_) | (refine AL.rpy rfl rfl rfl (rp_not rfl rfl) ?_))
 refine AL.rp rfl rfl (rp_pick rfl rfl rfl) ?_
 refine AL.rp rfl rfl (rp_move rfl rfl) ?_
 (first | (refine AL.noV rfl rfl rfl rfl ?_) | (refine AL.noU rfl ⟨_, rfl, rfl⟩ rfl ?_) | (refine AL.rpy rfl rfl rfl (rp_move rfl rfl) ?_))
 (first | (refine AL.noV rfl rfl rfl rfl ?_) | (refine AL.noU rfl ⟨_, rfl, rfl⟩ rfl ?_) | (refine AL.rpy rfl rfl rfl (rp_move rfl rfl) ?_))
 (first | (refine AL.noV rfl rfl rfl rfl ?_) | (refine AL.noU rfl ⟨_, rfl, rfl⟩ rfl ?_) | (refine AL.rpy rfl rfl rfl (rp_field_ref Tryd.underlying60 rfl rfl rfl inf3 (by decide) rfl) ?_) | (refine AL.rpy rfl rfl rfl (rp_field_ad Tryd.underlying60 rfl rfl rfl inf3 (by decide) rfl) ?_))
 (first | (refine AL.noV rfl rfl rfl rfl ?_) | (refine AL.noU rfl ⟨_, rfl, rfl⟩ rfl ?_) | (refine AL.rdy rfl rfl rfl (rd_load_ref Tryd.underlying3 rfl rfl rfl rfl rfl rfl) ?_) | (refine AL.rdy rfl rfl rfl (rd_load_ad Tryd.underlying3 rfl rfl rfl rfl) ?_) | (refine AL.rdy rfl rfl rfl (rd_load_map Tryd.underlying3 rfl rfl rfl rfl rfl rfl (by assumption)) ?_) | (refine AL.rdy rfl rfl rfl (rd_load_flat Tryd.underlying3 rfl rfl rfl rfl rfl rfl (fun _ => rfl) (by assumption) rfl) ?_))
 (first | (refine AL.no rfl rfl rfl rfl ?_) | (refine AL.noU rfl ⟨_, rfl, rfl⟩ rfl ?_) | (refine AL.cally (post := ?pc117) rfl rfl (sm_call (args := [_, _, _]) ?hc117 ⟨Tryd.func47, rfl, rfl, rfl, rfl⟩ rfl rfl rfl rfl) ?_; (case hc117 => (first | (refine Fn.decT (am_In _ _ _) ?_; omega) | (refine Fn.decF (am_In _ _ _) ?_; omega) | exact am_In _ _ _)); rintro _ rfl -; try dsimp only))
 (first | (refine AL.noV rfl rfl rfl rfl ?_) | (refine AL.noU rfl ⟨_, rfl, rfl⟩ rfl ?_) | (refine AL.rpy rfl rfl rfl (rp_not rfl rfl) ?_))
 (first | (refine AL.noV rfl rfl rfl rfl ?_) | (refine AL.noU rfl ⟨_, rfl, rfl⟩ rfl ?_) | (refine AL.rpy rfl rfl rfl (rp_pick rfl rfl rfl) ?_))
 refine AL.rp rfl rfl (rp_pick rfl rfl rfl) ?_
 refine AL.rp rfl rfl (rp_move rfl rfl) ?_
 (first | (refine AL.noV rfl rfl rfl rfl ?_) | (refine AL.noU rfl ⟨_, rfl, rfl⟩ rfl ?_) | (refine AL.rpy rfl rfl rfl (rp_move rfl rfl) ?_))
 (first | (refine AL.noV rfl rfl rfl rfl ?_) | (refine AL.noU rfl ⟨_, rfl, rfl⟩ rfl ?_) | (refine AL.rpy rfl rfl rfl (rp_move rfl rfl) ?_))
 (first | (refine AL.noV rfl rfl rfl rfl ?_) | (refine AL.noU rfl ⟨_, rfl, rfl⟩ rfl ?_) | (refine AL.rpy rfl rfl rfl (rp_field_ref Tryd.underlying60 rfl rfl rfl inf3 (by decide) rfl) ?_) | (refine AL.rpy rfl rfl rfl (rp_field_ad Tryd.underlying60 rfl rfl rfl inf3 (by decide) rfl) ?_))
 (first | (refine AL.noV rfl rfl rfl rfl ?_) | (refine AL.noU rfl ⟨_, rfl, rfl⟩ rfl ?_) | (refine AL.rdy rfl rfl rfl (rd_load_ref Tryd.underlying3 rfl rfl rfl rfl rfl rfl) ?_) | (refine AL.rdy rfl rfl rfl (rd_load_ad Tryd.underlying3 rfl rfl rfl rfl) ?_) | (refine AL.rdy rfl rfl rfl (rd_load_map Tryd.underlying3 rfl rfl rfl rfl rfl rfl (by assumption)) ?_) | (refine AL.rdy rfl rfl rfl (rd_load_flat Tryd.underlying3 rfl rfl rfl rfl rfl rfl (fun _ => rfl) (by assumption) rfl) ?_))
 (first | (refine AL.no rfl rfl rfl rfl ?_) | (refine AL.noU rfl ⟨_, rfl, rfl⟩ rfl ?_) | (refine AL.cally (post := ?pc118) rfl rfl (sm_call (args := [_, _, _]) ?hc118 ⟨Tryd.func47, rfl, rfl, rfl, rfl⟩ rfl rfl rfl rfl) ?_; (case hc118 => (first | (refine Fn.decT (am_In _ _ _) ?_; omega) | (refine Fn.decF (am_In _ _ _) ?_; omega) | exact am_In _ _ _)); rintro _ rfl -; try dsimp only))
 (first | (refine AL.noV rfl rfl rfl rfl ?_) | (refine AL.noU rfl ⟨_, rfl, rfl⟩ rfl ?_) | (refine AL.rpy rfl rfl rfl (rp_not rfl rfl) ?_))
 (first | (refine AL.noV rfl rfl rfl rfl ?_) | (refine AL.noU rfl ⟨_, rfl, rfl⟩ rfl ?_) | (refine AL.rpy rfl rfl rfl (rp_pick rfl rfl rfl) ?_))
 refine AL.rp rfl rfl (rp_pick rfl rfl rfl) ?_
 refine AL.nil ?_
 try simp only [thenS, S.put, S.newObj, setL, V.cs, List.length_cons, List.length_nil, List.take_succ_cons, List.take_zero, List.drop_succ_cons, List.drop_zero, List.drop_nil, List.nil_append, List.cons_append, List.append_nil, Nat.zero_add, Nat.reduceAdd, List.map_cons, List.map_nil, List.set_cons_zero, List.set_cons_succ]
 refine AW.condF rfl ?_
 refine AW.skip ?_
 try simp only [thenS]
 refine AW.seq ?_
 refine AW.seq ?_
 refine AW.region ?_
 refine AL.rp rfl rfl (rp_move rfl rfl) ?_
 refine AL.rp rfl rfl (rp_move rfl rfl) ?_
 (first | (refine AL.noV rfl rfl rfl rfl ?_) | (refine AL.noU rfl ⟨_, rfl, rfl⟩ rfl ?_) | (refine AL.rpy rfl rfl rfl (rp_field_ref Tryd.underlying60 rfl rfl rfl inf9 (by decide) rfl) ?_) | (refine AL.rpy rfl rfl rfl (rp_field_ad Tryd.underlying60 rfl rfl rfl inf9 (by decide) rfl) ?_))
 (first | (refine AL.noV rfl rfl rfl rfl ?_) | (refine AL.noU rfl ⟨_, rfl, rfl⟩ rfl ?_) | (refine AL.rdy rfl rfl rfl (rd_load_ref Tryd.underlying9 rfl rfl rfl rfl rfl rfl) ?_) | (refine AL.rdy rfl rfl rfl (rd_load_ad Tryd.underlying9 rfl rfl rfl rfl) ?_) | (refine AL.rdy rfl rfl rfl (rd_load_map Tryd.underlying9 rfl rfl rfl rfl rfl rfl (by assumption)) ?_) | (refine AL.rdy rfl rfl rfl (rd_load_flat Tryd.underlying9 rfl rfl rfl rfl rfl rfl (fun _ => rfl) (by assumption) rfl) ?_))
 (first | (refine AL.no rfl rfl rfl rfl ?_) | (refine AL.noU rfl ⟨_, rfl, rfl⟩ rfl ?_) | (refine AL.cally (post := ?pc119) rfl rfl (sm_call (args := [_]) ?hc119 ⟨Tryd.func48, rfl, rfl, rfl, rfl⟩ rfl rfl rfl rfl) ?_; (case hc119 => (first | assumption | exact am_NameMay _)); rintro _ rfl -; try dsimp only))
 (first | (refine AL.noV rfl rfl rfl rfl ?_) | (refine AL.noU rfl ⟨_, rfl, rfl⟩ rfl ?_) | (refine AL.rpy rfl rfl rfl (rp_not rfl rfl) ?_))
 refine AL.rp rfl rfl (rp_pick rfl rfl rfl) ?_
 refine AL.nil ?_
 try simp only [thenS, S.put, S.newObj, setL, V.cs, List.length_cons, List.length_nil, List.take_succ_cons, List.take_zero, List.drop_succ_cons, List.drop_zero, List.drop_nil, List.nil_append, List.cons_append, List.append_nil, Nat.zero_add, Nat.reduceAdd, List.map_cons, List.map_nil, List.set_cons_zero, List.set_cons_succ]
 refine AW.condF rfl ?_
 refine AW.skip ?_
 try simp only [thenS]
 refine AW.seq ?_
 refine AW.seq ?_
 refine AW.region ?_
 refine AL.rp rfl rfl (rp_move rfl rfl) ?_
 refine AL.rp rfl rfl (rp_not rfl rfl) ?_
 refine AL.rp rfl rfl (rp_move rfl rfl) ?_
 (first | (refine AL.noV rfl rfl rfl rfl ?_) | (refine AL.noU rfl ⟨_, rfl, rfl⟩ rfl ?_) | (refine AL.rpy rfl rfl rfl (rp_field_ref Tryd.underlying60 rfl rfl rfl inf3 (by decide) rfl) ?_) | (refine AL.rpy rfl rfl rfl (rp_field_ad Tryd.underlying60 rfl rfl rfl inf3 (by decide) rfl) ?_))
 (first | (refine AL.noV rfl rfl rfl rfl ?_) | (refine AL.noU rfl ⟨_, rfl, rfl⟩ rfl ?_) | (refine AL.rdy rfl rfl rfl (rd_load_ref Tryd.underlying3 rfl rfl rfl rfl rfl rfl) ?_) | (refine AL.rdy rfl rfl rfl (rd_load_ad Tryd.underlying3 rfl rfl rfl rfl) ?_) | (refine AL.rdy rfl rfl rfl (rd_load_map Tryd.underlying3 rfl rfl rfl rfl rfl rfl (by assumption)) ?_) | (refine AL.rdy rfl rfl rfl (rd_load_flat Tryd.underlying3 rfl rfl rfl rfl rfl rfl (fun _ => rfl) (by assumption) rfl) ?_))
 (first | (refine AL.noV rfl rfl rfl rfl ?_) | (refine AL.noU rfl ⟨_, rfl, rfl⟩ rfl ?_) | (refine AL.rpy rfl rfl rfl (rp_neqT rfl rfl rfl (by first | assumption | omega | (dsimp only; omega))) ?_) | (refine AL.rpy rfl rfl rfl (rp_neqF rfl rfl rfl (by first | assumption | omega | (dsimp only; omega))) ?_) | (refine AL.rpy rfl rfl rfl (rp_neq rfl rfl rfl) ?_))
 refine AL.rp rfl rfl (rp_pick rfl rfl rfl) ?_
 refine AL.rp rfl rfl (rp_move rfl rfl) ?_
 (first | (refine AL.noV rfl rfl rfl rfl ?_) | (refine AL.noU rfl ⟨_, rfl, rfl⟩ rfl ?_) | (refine AL.rpy rfl rfl rfl (rp_move rfl rfl) ?_))
 (first | (refine AL.noV rfl rfl rfl rfl ?_) | (refine AL.noU rfl ⟨_, rfl, rfl⟩ rfl ?_) | (refine AL.rpy rfl rfl rfl (rp_not rfl rfl) ?_))
 (first | (refine AL.noV rfl rfl rfl rfl ?_) | (refine AL.noU rfl ⟨_, rfl, rfl⟩ rfl ?_) | (refine AL.rpy rfl rfl rfl (rp_move rfl rfl) ?_))
 (first | (refine AL.noV rfl rfl rfl rfl ?_) | (refine AL.noU rfl ⟨_, rfl, rfl⟩ rfl ?_) | (refine AL.rpy rfl rfl rfl (rp_field_ref Tryd.underlying60 rfl rfl rfl inf3 (by decide) rfl) ?_) | (refine AL.rpy rfl rfl rfl (rp_field_ad Tryd.underlying60 rfl rfl rfl inf3 (by decide) rfl) ?_))
 (first | (refine AL.noV rfl rfl rfl rfl ?_) | (refine AL.noU rfl ⟨_, rfl, rfl⟩ rfl ?_) | (refine AL.rdy rfl rfl rfl (rd_load_ref Tryd.underlying3 rfl rfl rfl rfl rfl rfl) ?_) | (refine AL.rdy rfl rfl rfl (rd_load_ad Tryd.underlying3 rfl rfl rfl rfl) ?_) | (refine AL.rdy rfl rfl rfl (rd_load_map Tryd.underlying3 rfl rfl rfl rfl rfl rfl (by assumption)) ?_) | (refine AL.rdy rfl rfl rfl (rd_load_flat Tryd.underlying3 rfl rfl rfl rfl rfl rfl (fun _ => rfl) (by assumption) rfl) ?_))
 (first | (refine AL.noV rfl rfl rfl rfl ?_) | (refine AL.noU rfl ⟨_, rfl, rfl⟩ rfl ?_) | (refine AL.rpy rfl rfl rfl (rp_neqT rfl rfl rfl (by first | assumption | omega | (dsimp only; omega))) ?_) | (refine AL.rpy rfl rfl rfl (rp_neqF rfl rfl rfl (by first | assumption | omega | (dsimp only; omega))) ?_) | (refine AL.rpy rfl rfl rfl (rp_neq rfl rfl rfl) ?_))
 (first | (refine AL.noV rfl rfl rfl rfl ?_) | (refine AL.noU rfl ⟨_, rfl, rfl⟩ rfl ?_) | (refine AL.rpy rfl rfl rfl (rp_pick rfl rfl rfl) ?_))
 refine AL.rp rfl rfl (rp_pick rfl rfl rfl) ?_
 refine AL.rp rfl rfl (rp_move rfl rfl) ?_
 (first | (refine AL.noV rfl rfl rfl rfl ?_) | (refine AL.noU rfl ⟨_, rfl, rfl⟩ rfl ?_) | (refine AL.rpy rfl rfl rfl (rp_move rfl rfl) ?_))
 (first | (refine AL.noV rfl rfl rfl rfl ?_) | (refine AL.noU rfl ⟨_, rfl, rfl⟩ rfl ?_) | (refine AL.rpy rfl rfl rfl (rp_not rfl rfl) ?_))
 (first | (refine AL.noV rfl rfl rfl rfl ?_) | (refine AL.noU rfl ⟨_, rfl, rfl⟩ rfl ?_) | (refine AL.rpy rfl rfl rfl (rp_move rfl rfl) ?_))
 (first | (refine AL.noV rfl rfl rfl rfl ?_) | (refine AL.noU rfl ⟨_, rfl, rfl⟩ rfl ?_) | (refine AL.rpy rfl rfl rfl (rp_field_ref Tryd.underlying60 rfl rfl rfl inf3 (by decide) rfl) ?_) | (refine AL.rpy rfl rfl rfl (rp_field_ad Tryd.underlying60 rfl rfl rfl inf3 (by decide) rfl) ?_))
 (first | (refine AL.noV rfl rfl rfl rfl ?_) | (refine AL.noU rfl ⟨_, rfl, rfl⟩ rfl ?_) | (refine AL.rdy rfl rfl rfl (rd_load_ref Tryd.underlying3 rfl rfl rfl rfl rfl rfl) ?_) | (refine AL.rdy rfl rfl rfl (rd_load_ad Tryd.underlying3 rfl rfl rfl rfl) ?_) | (refine AL.rdy rfl rfl rfl (rd_load_map Tryd.underlying3 rfl rfl rfl rfl rfl rfl (by assumption)) ?_) | (refine AL.rdy rfl rfl rfl (rd_load_flat Tryd.underlying3 rfl rfl rfl rfl rfl rfl (fun _ => rfl) (by assumption) rfl) ?_))
 (first | (refine AL.noV rfl rfl rfl rfl ?_) | (refine AL.noU rfl ⟨_, rfl, rfl⟩ rfl ?_) | (refine AL.rpy rfl rfl rfl (rp_neqT rfl rfl rfl (by first | assumption | omega | (dsimp only; omega))) ?_) | (refine AL.rpy rfl rfl rfl (rp_neqF rfl rfl rfl (by first | assumption | omega | (dsimp only; omega))) ?_) | (refine AL.rpy rfl rfl rfl (rp_neq rfl rfl rfl) ?_))
 (first | (refine AL.noV rfl rfl rfl rfl ?_) | (refine AL.noU rfl ⟨_, rfl, rfl⟩ rfl ?_) | (refine AL.rpy rfl rfl rfl (rp_pick rfl rfl rfl) ?_))
 refine AL.rp rfl rfl (rp_pick rfl rfl rfl) ?_
 refine AL.rp rfl rfl (rp_move rfl rfl) ?_
 (first | (refine AL.noV rfl rfl rfl rfl ?_) | (refine AL.noU rfl ⟨_, rfl, rfl⟩ rfl ?_) | (refine AL.rpy rfl rfl rfl (rp_move rfl rfl) ?_))
 (first | (refine AL.noV rfl rfl rfl rfl ?_) | (refine AL.noU rfl ⟨_, rfl, rfl⟩ rfl ?_) | (refine AL.rpy rfl rfl rfl (rp_not rfl rfl) ?_))
 (first | (refine AL.noV rfl rfl rfl rfl ?_) | (refine AL.noU rfl ⟨_, rfl, rfl⟩ rfl ?_) | (refine AL.rpy rfl rfl rfl (rp_move rfl rfl) ?_))
 (first | (refine AL.noV rfl rfl rfl rfl ?_) | (refine AL.noU rfl ⟨_, rfl, rfl⟩ rfl ?_) | (refine AL.rpy rfl rfl rfl (rp_field_ref Tryd.underlying60 rfl rfl rfl inf9 (by decide) rfl) ?_) | (refine AL.rpy rfl rfl rfl (rp_field_ad Tryd.underlying60 rfl rfl rfl inf9 (by decide) rfl) ?_))
 (first | (refine AL.noV rfl rfl rfl rfl ?_) | (refine AL.noU rfl ⟨_, rfl, rfl⟩ rfl ?_) | (refine AL.rdy rfl rfl rfl (rd_load_ref Tryd.underlying9 rfl rfl rfl rfl rfl rfl) ?_) | (refine AL.rdy rfl rfl rfl (rd_load_ad Tryd.underlying9 rfl rfl rfl rfl) ?_) | (refine AL.rdy rfl rfl rfl (rd_load_map Tryd.underlying9 rfl rfl rfl rfl rfl rfl (by assumption)) ?_) | (refine AL.rdy rfl rfl rfl (rd_load_flat Tryd.underlying9 rfl rfl rfl rfl rfl rfl (fun _ => rfl) (by assumption) rfl) ?_))
 (first | (refine AL.noV rfl rfl rfl rfl ?_) | (refine AL.noU rfl ⟨_, rfl, rfl⟩ rfl ?_) | (refine AL.rpy rfl rfl rfl (rp_neqsF rfl rfl rfl (by assumption)) ?_) | (refine AL.rpy rfl rfl rfl (rp_neqsT rfl rfl rfl (by assumption)) ?_) | (refine AL.rpy rfl rfl rfl (rp_neqs rfl rfl rfl) ?_))
 (first | (refine AL.noV rfl rfl rfl rfl ?_) | (refine AL.noU rfl ⟨_, rfl, rfl⟩ rfl ?_) | (refine AL.rpy rfl rfl rfl (rp_pick rfl rfl rfl) ?_))
 refine AL.rp rfl rfl (rp_pick rfl rfl rfl) ?_
 refine AL.nil ?_
 try simp only [thenS, S.put]
 refine AW.condF rfl ?_
 refine AW.skip ?_
 try simp only [thenS]
 refine AW.seq ?_
 refine AW.draw [(0, true), (1, true), (2, true), (3, true), (6, true), (7, true), (8, true), (11, true), (12, true), (13, true), (4, false), (5, true), (9, false), (10, true), (14, false), (15, false), (16, false)] (fun i => !([] : List Nat).contains i) 17 (by kernel_rfl) (by kernel_rfl) rfl (by kernel_rfl) ?_
 refine AD1.rp rfl rfl rfl (fun _ _ h => h) (rp_move rfl rfl) ?_
 refine AD1.rp rfl rfl rfl (fun _ _ h => h) (rp_move rfl rfl) ?_
 (first | (refine AD1.rp rfl rfl rfl (fun _ _ h => h) (rp_field_ref Tryd.underlying60 rfl rfl rfl inf3 (by decide) rfl) ?_) | (refine AD1.rp rfl rfl rfl (fun _ _ h => h) (rp_field_ad Tryd.underlying60 rfl rfl rfl inf3 (by decide) rfl) ?_))
 (first | (refine AD1.rd rfl rfl rfl (fun _ _ h => h) (rd_load_ref Tryd.underlying3 rfl rfl rfl rfl rfl rfl) ?_) | (refine AD1.rd rfl rfl rfl (fun _ _ h => h) (rd_load_ad Tryd.underlying3 rfl rfl rfl rfl) ?_) | (refine AD1.rd rfl rfl rfl (fun _ _ h => h) (rd_load_map Tryd.underlying3 rfl rfl rfl rfl rfl rfl (by assumption)) ?_) | (refine AD1.rd rfl rfl rfl (fun _ _ h => h) (rd_load_flat Tryd.underlying3 rfl rfl rfl rfl rfl rfl (fun _ => rfl) (by assumption) rfl) ?_))
 refine AD1.rp rfl rfl rfl (fun _ _ h => h) (rp_move rfl rfl) ?_
 (first | (refine AD1.rp rfl rfl rfl (fun _ _ h => h) (rp_field_ref Tryd.underlying60 rfl rfl rfl inf3 (by decide) rfl) ?_) | (refine AD1.rp rfl rfl rfl (fun _ _ h => h) (rp_field_ad Tryd.underlying60 rfl rfl rfl inf3 (by decide) rfl) ?_))
 (first | (refine AD1.rd rfl rfl rfl (fun _ _ h => h) (rd_load_ref Tryd.underlying3 rfl rfl rfl rfl rfl rfl) ?_) | (refine AD1.rd rfl rfl rfl (fun _ _ h => h) (rd_load_ad Tryd.underlying3 rfl rfl rfl rfl) ?_) | (refine AD1.rd rfl rfl rfl (fun _ _ h => h) (rd_load_map Tryd.underlying3 rfl rfl rfl rfl rfl rfl (by assumption)) ?_) | (refine AD1.rd rfl rfl rfl (fun _ _ h => h) (rd_load_flat Tryd.underlying3 rfl rfl rfl rfl rfl rfl (fun _ => rfl) (by assumption) rfl) ?_))
 refine AD1.rp rfl rfl rfl (fun _ _ h => h) (rp_move rfl rfl) ?_
 (first | (refine AD1.rp rfl rfl rfl (fun _ _ h => h) (rp_field_ref Tryd.underlying60 rfl rfl rfl inf3 (by decide) rfl) ?_) | (refine AD1.rp rfl rfl rfl (fun _ _ h => h) (rp_field_ad Tryd.underlying60 rfl rfl rfl inf3 (by decide) rfl) ?_))
 (first | (refine AD1.rd rfl rfl rfl (fun _ _ h => h) (rd_load_ref Tryd.underlying3 rfl rfl rfl rfl rfl rfl) ?_) | (refine AD1.rd rfl rfl rfl (fun _ _ h => h) (rd_load_ad Tryd.underlying3 rfl rfl rfl rfl) ?_) | (refine AD1.rd rfl rfl rfl (fun _ _ h => h) (rd_load_map Tryd.underlying3 rfl rfl rfl rfl rfl rfl (by assumption)) ?_) | (refine AD1.rd rfl rfl rfl (fun _ _ h => h) (rd_load_flat Tryd.underlying3 rfl rfl rfl rfl rfl rfl (fun _ => rfl) (by assumption) rfl) ?_))
 refine AD1.go ?_
 refine AD2.call (post := ?pc120) rfl rfl (sm_call (args := [_, _]) ?hc120 ⟨Tryd.func54, rfl, rfl, rfl, rfl⟩ rfl rfl rfl rfl) ?_
 case hc120 => exact hrt
 rintro _ rfl -
 try dsimp only
 refine AD2.rp rfl rfl rfl (fun _ _ h => h) (rp_adds rfl rfl rfl (by first | assumption | omega | (simp only [ByteArray.size_append]; omega))) ?_
 refine AD2.call (post := ?pc121) rfl rfl (sm_call (args := [_, _]) ?hc121 ⟨Tryd.func54, rfl, rfl, rfl, rfl⟩ rfl rfl rfl rfl) ?_
 case hc121 => exact hra
 rintro _ rfl -
 try dsimp only
 refine AD2.rp rfl rfl rfl (fun _ _ h => h) (rp_adds rfl rfl rfl (by first | assumption | omega | (simp only [ByteArray.size_append]; omega))) ?_
 refine AD2.call (post := ?pc122) rfl rfl (sm_call (args := [_, _]) ?hc122 ⟨Tryd.func54, rfl, rfl, rfl, rfl⟩ rfl rfl rfl rfl) ?_
 case hc122 => exact hrb
 rintro _ rfl -
 try dsimp only
 refine AD2.rp1 rfl rfl rfl (rp_adds rfl rfl rfl (by first | assumption | omega | (simp only [ByteArray.size_append]; omega))) ?_
 refine AD2.rp1 rfl rfl rfl (rp_assign rfl rfl) ?_
 refine AD2.nil ?_
 try simp only [thenS, S.put, S.newObj, setL, V.cs, List.length_cons, List.length_nil, List.take_succ_cons, List.take_zero, List.drop_succ_cons, List.drop_zero, List.drop_nil, List.nil_append, List.cons_append, List.append_nil, Nat.zero_add, Nat.reduceAdd, List.map_cons, List.map_nil, List.set_cons_zero, List.set_cons_succ]
 refine AW.seq ?_
 refine AW.seq ?_
 refine AW.region ?_
 refine AL.rp rfl rfl (rp_move rfl rfl) ?_
 refine AL.nil ?_
 try simp only [thenS, S.put]
 refine AW.condF rfl ?_
 refine AW.skip ?_
 try simp only [thenS]
 refine AW.seq ?_
 refine AW.region ?_
 refine AL.rp rfl rfl (rp_move rfl rfl) ?_
 refine AL.rp rfl rfl (rp_adds rfl rfl rfl (by first | assumption | omega | (simp only [ByteArray.size_append]; omega))) ?_
 refine AL.rp rfl rfl (rp_assign rfl rfl) ?_
 refine AL.rp rfl rfl (rp_assign rfl rfl) ?_
 refine AL.nil ?_
 try simp only [thenS, S.put]
 refine AW.ret ?_
 exact ⟨[_, _], ⟨rfl, rfl, trivial⟩, by rw [← htx]; rfl, by simp [tupOf, V.pure, V.has, V.hasL]⟩
set_option maxHeartbeats 4000000 in
theorem am_StepShown3 (k : Nat) (xt xa xb : Int) (xn : ByteArray) (h1 : 1 ≤ k) (h2 : k ≤ 15) (hp : ptK k = 3) (S1 : ByteArray) (E1 : Int) (hS : stS ⟨k, xt, xa, xb, xn⟩ = S1) (hE : stE ⟨k, xt, xa, xb, xn⟩ = E1) : Fn Tryd.prog 28 [.agg [.i k, .i xt, .i xa, .i xb, .s xn]] (fun v => v = .tup [.s S1, .i E1]) := by
 have hws := wdK_size k (by omega)
 have hwp := wdK_pos k (by omega) h1
 have hwne : (wdK k).data.toList ≠ (⟨#[]⟩ : ByteArray).data.toList := by
  intro h
  have := congrArg List.length h
  rw [show (wdK k).data.toList.length = (wdK k).size from Array.length_toList] at this
  have h2 : (⟨#[]⟩ : ByteArray).data.toList.length = 0 := rfl
  omega
 have hsw := am_StepWord k 3 h1 h2 hp
 simp only [hasT, hasA, hasB, hasN, Nat.reduceBNe, Nat.reduceBEq, bne_self_eq_false, beq_self_eq_true, Bool.or_false, Bool.false_or, Bool.or_true, Bool.true_or, Bool.or_self] at hsw
 have hs32 : (⟨#[32]⟩ : ByteArray).size = 1 := rfl
 have hs10 : (⟨#[10]⟩ : ByteArray).size = 1 := rfl
 have hs0 : (⟨#[]⟩ : ByteArray).size = 0 := rfl
 have hkt : (⟨k, xt, xa, xb, xn⟩ : Stp).k.toNat = k := by simp
 by_cases ha : 0 ≤ xa ∧ xa ≤ 25
 rotate_left
 ·have hE' : stE ⟨k, xt, xa, xb, xn⟩ = 2 := stE_r (k := k) (p := 3) rfl h1 h2 hp (by simp [badR, hasT, hasA, hasB, rgOk]; omega)
  rw [hE'] at hE
  obtain rfl : S1 = ⟨#[]⟩ := by rw [← hS]; unfold stS; rw [hE', if_neg (by decide)]
  subst hE
  by_cases hneg : xa < 0
  ·refine Fn.intro (n := 111) ⟨Tryd.func28, rfl, rfl, rfl, rfl⟩ (by simp [V.pure, V.has, V.hasL]) (by simp) fun w0 out => ?_
   refine AW.seq ?_
   refine AW.region ?_
   refine AL.sm rfl (sm_box 1 rfl rfl rfl (by first | rfl | simp [S.clean, S.put, S.newObj, S.forget, V.has, V.hasL, junkIf, setL, V.cs, hasL_i, hasL_d, hasL_b, hasL_s, hasL_n, hasL_rep, hasL_flat, hasL_append, -List.map_set]) rfl) ?_
   refine AL.rp rfl rfl (rp_assign rfl rfl) ?_
   refine AL.rp rfl rfl (rp_assign rfl rfl) ?_
   refine AL.nil ?_
   try simp only [thenS, S.put, S.newObj, setL, V.cs, List.length_cons, List.length_nil, List.take_succ_cons, List.take_zero, List.drop_succ_cons, List.drop_zero, List.drop_nil, List.nil_append, List.cons_append, List.append_nil, Nat.zero_add, Nat.reduceAdd, List.map_cons, List.map_nil, List.set_cons_zero, List.set_cons_succ, enum]
   refine AW.seq ?_
   refine AW.region ?_
   (first | (refine AL.rp rfl rfl (rp_field_ref Tryd.underlying60 rfl rfl rfl inf3 (by decide) rfl) ?_) | (refine AL.rp rfl rfl (rp_field_ad Tryd.underlying60 rfl rfl rfl inf3 (by decide) rfl) ?_))
   (first | (refine AL.rd rfl rfl (rd_load_ref Tryd.underlying3 rfl rfl rfl rfl rfl rfl) ?_) | (refine AL.rd rfl rfl (rd_load_ad Tryd.underlying3 rfl rfl rfl rfl) ?_) | (refine AL.rd rfl rfl (rd_load_map Tryd.underlying3 rfl rfl rfl rfl rfl rfl (by assumption)) ?_) | (refine AL.rd rfl rfl (rd_load_flat Tryd.underlying3 rfl rfl rfl rfl rfl rfl (fun _ => rfl) (by assumption) rfl) ?_))
   refine AL.call (post := ?pc123) rfl (sm_call (args := [_]) ?hc123 ⟨Tryd.func52, rfl, rfl, rfl, rfl⟩ rfl rfl rfl rfl) ?_
   case hc123 => exact hsw
   rintro _ rfl -
   try dsimp only
   refine AL.rp rfl rfl (rp_move rfl rfl) ?_
   refine AL.rp rfl rfl (rp_extract rfl rfl rfl) ?_
   refine AL.rp rfl rfl (rp_extract rfl rfl rfl) ?_
   refine AL.rp rfl rfl (rp_extract rfl rfl rfl) ?_
   refine AL.rp rfl rfl (rp_extract rfl rfl rfl) ?_
   refine AL.rp rfl rfl (rp_extract rfl rfl rfl) ?_
   refine AL.rp rfl rfl (rp_assign rfl rfl) ?_
   refine AL.rp rfl rfl (rp_assign rfl rfl) ?_
   refine AL.rp rfl rfl (rp_assign rfl rfl) ?_
   refine AL.rp rfl rfl (rp_assign rfl rfl) ?_
   refine AL.rp rfl rfl (rp_assign rfl rfl) ?_
   refine AL.nil ?_
   try simp only [thenS, S.put, S.newObj, setL, V.cs, List.length_cons, List.length_nil, List.take_succ_cons, List.take_zero, List.drop_succ_cons, List.drop_zero, List.drop_nil, List.nil_append, List.cons_append, List.append_nil, Nat.zero_add, Nat.reduceAdd, List.map_cons, List.map_nil, List.set_cons_zero, List.set_cons_succ]
   refine AW.seq ?_
   refine AW.seq ?_
   refine AW.region ?_
   refine AL.rp rfl rfl (rp_move rfl rfl) ?_
   (first | (refine AL.rp rfl rfl (rp_eqlsT rfl rfl rfl (by assumption)) ?_) | (refine AL.rp rfl rfl (rp_eqlsF rfl rfl rfl (by assumption)) ?_) | (refine AL.rp rfl rfl (rp_eqls rfl rfl rfl) ?_))
   refine AL.nil ?_
   try simp only [thenS, S.put]
   refine AW.condF rfl ?_
   refine AW.skip ?_
   try simp only [thenS]
   refine AW.seq ?_
   refine AW.seq ?_
   refine AW.region ?_
   refine AL.rp rfl rfl (rp_move rfl rfl) ?_
   refine AL.rp rfl rfl (rp_move rfl rfl) ?_
   (first | (refine AL.noV rfl rfl rfl rfl ?_) | (refine AL.noU rfl ⟨_, rfl, rfl⟩ rfl ?_) | (refine AL.rpy rfl rfl rfl (rp_field_ref Tryd.underlying60 rfl rfl rfl inf3 (by decide) rfl) ?_) | (refine AL.rpy rfl rfl rfl (rp_field_ad Tryd.underlying60 rfl rfl rfl inf3 (by decide) rfl) ?_))
   (first | (refine AL.noV rfl rfl rfl rfl ?_) | (refine AL.noU rfl ⟨_, rfl, rfl⟩ rfl ?_) | (refine AL.rdy rfl rfl rfl (rd_load_ref Tryd.underlying3 rfl rfl rfl rfl rfl rfl) ?_) | (refine AL.rdy rfl rfl rfl (rd_load_ad Tryd.underlying3 rfl rfl rfl rfl) ?_) | (refine AL.rdy rfl rfl rfl (rd_load_map Tryd.underlying3 rfl rfl rfl rfl rfl rfl (by assumption)) ?_) | (refine AL.rdy rfl rfl rfl (rd_load_flat Tryd.underlying3 rfl rfl rfl rfl rfl rfl (fun _ => rfl) (by assumption) rfl) ?_))
   (first | (refine AL.no rfl rfl rfl rfl ?_) | (refine AL.noU rfl ⟨_, rfl, rfl⟩ rfl ?_) | (refine AL.cally (post := ?pc124) rfl rfl (sm_call (args := [_, _, _]) ?hc124 ⟨Tryd.func47, rfl, rfl, rfl, rfl⟩ rfl rfl rfl rfl) ?_; (case hc124 => (first | (refine Fn.decT (am_In _ _ _) ?_; omega) | (refine Fn.decF (am_In _ _ _) ?_; omega) | exact am_In _ _ _)); rintro _ rfl -; try dsimp only))
   (first | (refine AL.noV rfl rfl rfl rfl ?_) | (refine AL.noU rfl ⟨_, rfl, rfl⟩ rfl ?_) | (refine AL.rpy rfl rfl rfl (rp_not rfl rfl) ?_))
   refine AL.rp rfl rfl (rp_pick rfl rfl rfl) ?_
   refine AL.rp rfl rfl (rp_move rfl rfl) ?_
   (first | (refine AL.noV rfl rfl rfl rfl ?_) | (refine AL.noU rfl ⟨_, rfl, rfl⟩ rfl ?_) | (refine AL.rpy rfl rfl rfl (rp_move rfl rfl) ?_))
   (first | (refine AL.noV rfl rfl rfl rfl ?_) | (refine AL.noU rfl ⟨_, rfl, rfl⟩ rfl ?_) | (refine AL.rpy rfl rfl rfl (rp_move rfl rfl) ?_))
   (first | (refine AL.noV rfl rfl rfl rfl ?_) | (refine AL.noU rfl ⟨_, rfl, rfl⟩ rfl ?_) | (refine AL.rpy rfl rfl rfl (rp_field_ref Tryd.underlying60 rfl rfl rfl inf3 (by decide) rfl) ?_) | (refine AL.rpy rfl rfl rfl (rp_field_ad Tryd.underlying60 rfl rfl rfl inf3 (by decide) rfl) ?_))
   (first | (refine AL.noV rfl rfl rfl rfl ?_) | (refine AL.noU rfl ⟨_, rfl, rfl⟩ rfl ?_) | (refine AL.rdy rfl rfl rfl (rd_load_ref Tryd.underlying3 rfl rfl rfl rfl rfl rfl) ?_) | (refine AL.rdy rfl rfl rfl (rd_load_ad Tryd.underlying3 rfl rfl rfl rfl) ?_) | (refine AL.rdy rfl rfl rfl (rd_load_map Tryd.underlying3 rfl rfl rfl rfl rfl rfl (by assumption)) ?_) | (refine AL.rdy rfl rfl rfl (rd_load_flat Tryd.underlying3 rfl rfl rfl rfl rfl rfl (fun _ => rfl) (by assumption) rfl) ?_))
   (first | (refine AL.no rfl rfl rfl rfl ?_) | (refine AL.noU rfl ⟨_, rfl, rfl⟩ rfl ?_) | (refine AL.cally (post := ?pc125) rfl rfl (sm_call (args := [_, _, _]) ?hc125 ⟨Tryd.func47, rfl, rfl, rfl, rfl⟩ rfl rfl rfl rfl) ?_; (case hc125 => (first | (refine Fn.decT (am_In _ _ _) ?_; omega) | (refine Fn.decF (am_In _ _ _) ?_; omega) | exact am_In _ _ _)); rintro _ rfl -; try dsimp only))
   (first | (refine AL.noV rfl rfl rfl rfl ?_) | (refine AL.noU rfl ⟨_, rfl, rfl⟩ rfl ?_) | (refine AL.rpy rfl rfl rfl (rp_not rfl rfl) ?_))
   (first | (refine AL.noV rfl rfl rfl rfl ?_) | (refine AL.noU rfl ⟨_, rfl, rfl⟩ rfl ?_) | (refine AL.rpy rfl rfl rfl (rp_pick rfl rfl rfl) ?_))
   refine AL.rp rfl rfl (rp_pick rfl rfl rfl) ?_
   refine AL.rp rfl rfl (rp_move rfl rfl) ?_
   (first | (refine AL.noV rfl rfl rfl rfl ?_) | (refine AL.noU rfl ⟨_, rfl, rfl⟩ rfl ?_) | (refine AL.rpy rfl rfl rfl (rp_move rfl rfl) ?_))
   (first | (refine AL.noV rfl rfl rfl rfl ?_) | (refine AL.noU rfl ⟨_, rfl, rfl⟩ rfl ?_) | (refine AL.rpy rfl rfl rfl (rp_move rfl rfl) ?_))
   (first | (refine AL.noV rfl rfl rfl rfl ?_) | (refine AL.noU rfl ⟨_, rfl, rfl⟩ rfl ?_) | (refine AL.rpy rfl rfl rfl (rp_field_ref Tryd.underlying60 rfl rfl rfl inf3 (by decide) rfl) ?_) | (refine AL.rpy rfl rfl rfl (rp_field_ad Tryd.underlying60 rfl rfl rfl inf3 (by decide) rfl) ?_))
   (first | (refine AL.noV rfl rfl rfl rfl ?_) | (refine AL.noU rfl ⟨_, rfl, rfl⟩ rfl ?_) | (refine AL.rdy rfl rfl rfl (rd_load_ref Tryd.underlying3 rfl rfl rfl rfl rfl rfl) ?_) | (refine AL.rdy rfl rfl rfl (rd_load_ad Tryd.underlying3 rfl rfl rfl rfl) ?_) | (refine AL.rdy rfl rfl rfl (rd_load_map Tryd.underlying3 rfl rfl rfl rfl rfl rfl (by assumption)) ?_) | (refine AL.rdy rfl rfl rfl (rd_load_flat Tryd.underlying3 rfl rfl rfl rfl rfl rfl (fun _ => rfl) (by assumption) rfl) ?_))
   (first | (refine AL.no rfl rfl rfl rfl ?_) | (refine AL.noU rfl ⟨_, rfl, rfl⟩ rfl ?_) | (refine AL.cally (post := ?pc126) rfl rfl (sm_call (args := [_, _, _]) ?hc126 ⟨Tryd.func47, rfl, rfl, rfl, rfl⟩ rfl rfl rfl rfl) ?_; (case hc126 => (first | (refine Fn.decT (am_In _ _ _) ?_; omega) | (refine Fn.decF (am_In _ _ _) ?_; omega) | exact am_In _ _ _)); rintro _ rfl -; try dsimp only))
   (first | (refine AL.noV rfl rfl rfl rfl ?_) | (refine AL.noU rfl ⟨_, rfl, rfl⟩ rfl ?_) | (refine AL.rpy rfl rfl rfl (rp_not rfl rfl) ?_))
   (first | (refine AL.noV rfl rfl rfl rfl ?_) | (refine AL.noU rfl ⟨_, rfl, rfl⟩ rfl ?_) | (refine AL.rpy rfl rfl rfl (rp_pick rfl rfl rfl) ?_))
   refine AL.rp rfl rfl (rp_pick rfl rfl rfl) ?_
   refine AL.nil ?_
   try simp only [thenS, S.put, S.newObj, setL, V.cs, List.length_cons, List.length_nil, List.take_succ_cons, List.take_zero, List.drop_succ_cons, List.drop_zero, List.drop_nil, List.nil_append, List.cons_append, List.append_nil, Nat.zero_add, Nat.reduceAdd, List.map_cons, List.map_nil, List.set_cons_zero, List.set_cons_succ]
   refine AW.condT rfl ?_
   refine AW.seq ?_
   refine AW.region ?_
   refine AL.rp rfl rfl (rp_assign rfl rfl) ?_
   refine AL.rp rfl rfl (rp_assign rfl rfl) ?_
   refine AL.nil ?_
   try simp only [thenS, S.put]
   refine AW.ret ?_
   exact ⟨[_, _], ⟨rfl, rfl, trivial⟩, rfl, by simp [tupOf, V.pure, V.has, V.hasL]⟩
  ·have hbig : 25 < xa := by omega
   refine Fn.intro (n := 111) ⟨Tryd.func28, rfl, rfl, rfl, rfl⟩ (by simp [V.pure, V.has, V.hasL]) (by simp) fun w0 out => ?_
   refine AW.seq ?_
   refine AW.region ?_
   refine AL.sm rfl (sm_box 1 rfl rfl rfl (by first | rfl | simp [S.clean, S.put, S.newObj, S.forget, V.has, V.hasL, junkIf, setL, V.cs, hasL_i, hasL_d, hasL_b, hasL_s, hasL_n, hasL_rep, hasL_flat, hasL_append, -List.map_set]) rfl) ?_
   refine AL.rp rfl rfl (rp_assign rfl rfl) ?_
   refine AL.rp rfl rfl (rp_assign rfl rfl) ?_
   refine AL.nil ?_
   try simp only [thenS, S.put, S.newObj, setL, V.cs, List.length_cons, List.length_nil, List.take_succ_cons, List.take_zero, List.drop_succ_cons, List.drop_zero, List.drop_nil, List.nil_append, List.cons_append, List.append_nil, Nat.zero_add, Nat.reduceAdd, List.map_cons, List.map_nil, List.set_cons_zero, List.set_cons_succ, enum]
   refine AW.seq ?_
   refine AW.region ?_
   (first | (refine AL.rp rfl rfl (rp_field_ref Tryd.underlying60 rfl rfl rfl inf3 (by decide) rfl) ?_) | (refine AL.rp rfl rfl (rp_field_ad Tryd.underlying60 rfl rfl rfl inf3 (by decide) rfl) ?_))
   (first | (refine AL.rd rfl rfl (rd_load_ref Tryd.underlying3 rfl rfl rfl rfl rfl rfl) ?_) | (refine AL.rd rfl rfl (rd_load_ad Tryd.underlying3 rfl rfl rfl rfl) ?_) | (refine AL.rd rfl rfl (rd_load_map Tryd.underlying3 rfl rfl rfl rfl rfl rfl (by assumption)) ?_) | (refine AL.rd rfl rfl (rd_load_flat Tryd.underlying3 rfl rfl rfl rfl rfl rfl (fun _ => rfl) (by assumption) rfl) ?_))
   refine AL.call (post := ?pc127) rfl (sm_call (args := [_]) ?hc127 ⟨Tryd.func52, rfl, rfl, rfl, rfl⟩ rfl rfl rfl rfl) ?_
   case hc127 => exact hsw
   rintro _ rfl -
   try dsimp only
   refine AL.rp rfl rfl (rp_move rfl rfl) ?_
   refine AL.rp rfl rfl (rp_extract rfl rfl rfl) ?_
   refine AL.rp rfl rfl (rp_extract rfl rfl rfl) ?_
   refine AL.rp rfl rfl (rp_extract rfl rfl rfl) ?_
   refine AL.rp rfl rfl (rp_extract rfl rfl rfl) ?_
   refine AL.rp rfl rfl (rp_extract rfl rfl rfl) ?_
   refine AL.rp rfl rfl (rp_assign rfl rfl) ?_
   refine AL.rp rfl rfl (rp_assign rfl rfl) ?_
   refine AL.rp rfl rfl (rp_assign rfl rfl) ?_
   refine AL.rp rfl rfl (rp_assign rfl rfl) ?_
   refine AL.rp rfl rfl (rp_assign rfl rfl) ?_
   refine AL.nil ?_
   try simp only [thenS, S.put, S.newObj, setL, V.cs, List.length_cons, List.length_nil, List.take_succ_cons, List.take_zero, List.drop_succ_cons, List.drop_zero, List.drop_nil, List.nil_append, List.cons_append, List.append_nil, Nat.zero_add, Nat.reduceAdd, List.map_cons, List.map_nil, List.set_cons_zero, List.set_cons_succ]
   refine AW.seq ?_
   refine AW.seq ?_
   refine AW.region ?_
   refine AL.rp rfl rfl (rp_move rfl rfl) ?_
   (first | (refine AL.rp rfl rfl (rp_eqlsT rfl rfl rfl (by assumption)) ?_) | (refine AL.rp rfl rfl (rp_eqlsF rfl rfl rfl (by assumption)) ?_) | (refine AL.rp rfl rfl (rp_eqls rfl rfl rfl) ?_))
   refine AL.nil ?_
   try simp only [thenS, S.put]
   refine AW.condF rfl ?_
   refine AW.skip ?_
   try simp only [thenS]
   refine AW.seq ?_
   refine AW.seq ?_
   refine AW.region ?_
   refine AL.rp rfl rfl (rp_move rfl rfl) ?_
   refine AL.rp rfl rfl (rp_move rfl rfl) ?_
   (first | (refine AL.noV rfl rfl rfl rfl ?_) | (refine AL.noU rfl ⟨_, rfl, rfl⟩ rfl ?_) | (refine AL.rpy rfl rfl rfl (rp_field_ref Tryd.underlying60 rfl rfl rfl inf3 (by decide) rfl) ?_) | (refine AL.rpy rfl rfl rfl (rp_field_ad Tryd.underlying60 rfl rfl rfl inf3 (by decide) rfl) ?_))
   (first | (refine AL.noV rfl rfl rfl rfl ?_) | (refine AL.noU rfl ⟨_, rfl, rfl⟩ rfl ?_) | (refine AL.rdy rfl rfl rfl (rd_load_ref Tryd.underlying3 rfl rfl rfl rfl rfl rfl) ?_) | (refine AL.rdy rfl rfl rfl (rd_load_ad Tryd.underlying3 rfl rfl rfl rfl) ?_) | (refine AL.rdy rfl rfl rfl (rd_load_map Tryd.underlying3 rfl rfl rfl rfl rfl rfl (by assumption)) ?_) | (refine AL.rdy rfl rfl rfl (rd_load_flat Tryd.underlying3 rfl rfl rfl rfl rfl rfl (fun _ => rfl) (by assumption) rfl) ?_))
   (first | (refine AL.no rfl rfl rfl rfl ?_) | (refine AL.noU rfl ⟨_, rfl, rfl⟩ rfl ?_) | (refine AL.cally (post := ?pc128) rfl rfl (sm_call (args := [_, _, _]) ?hc128 ⟨Tryd.func47, rfl, rfl, rfl, rfl⟩ rfl rfl rfl rfl) ?_; (case hc128 => (first | (refine Fn.decT (am_In _ _ _) ?_; omega) | (refine Fn.decF (am_In _ _ _) ?_; omega) | exact am_In _ _ _)); rintro _ rfl -; try dsimp only))
   (first | (refine AL.noV rfl rfl rfl rfl ?_) | (refine AL.noU rfl ⟨_, rfl, rfl⟩ rfl ?_) | (refine AL.rpy rfl rfl rfl (rp_not rfl rfl) ?_))
   refine AL.rp rfl rfl (rp_pick rfl rfl rfl) ?_
   refine AL.rp rfl rfl (rp_move rfl rfl) ?_
   (first | (refine AL.noV rfl rfl rfl rfl ?_) | (refine AL.noU rfl ⟨_, rfl, rfl⟩ rfl ?_) | (refine AL.rpy rfl rfl rfl (rp_move rfl rfl) ?_))
   (first | (refine AL.noV rfl rfl rfl rfl ?_) | (refine AL.noU rfl ⟨_, rfl, rfl⟩ rfl ?_) | (refine AL.rpy rfl rfl rfl (rp_move rfl rfl) ?_))
   (first | (refine AL.noV rfl rfl rfl rfl ?_) | (refine AL.noU rfl ⟨_, rfl, rfl⟩ rfl ?_) | (refine AL.rpy rfl rfl rfl (rp_field_ref Tryd.underlying60 rfl rfl rfl inf3 (by decide) rfl) ?_) | (refine AL.rpy rfl rfl rfl (rp_field_ad Tryd.underlying60 rfl rfl rfl inf3 (by decide) rfl) ?_))
   (first | (refine AL.noV rfl rfl rfl rfl ?_) | (refine AL.noU rfl ⟨_, rfl, rfl⟩ rfl ?_) | (refine AL.rdy rfl rfl rfl (rd_load_ref Tryd.underlying3 rfl rfl rfl rfl rfl rfl) ?_) | (refine AL.rdy rfl rfl rfl (rd_load_ad Tryd.underlying3 rfl rfl rfl rfl) ?_) | (refine AL.rdy rfl rfl rfl (rd_load_map Tryd.underlying3 rfl rfl rfl rfl rfl rfl (by assumption)) ?_) | (refine AL.rdy rfl rfl rfl (rd_load_flat Tryd.underlying3 rfl rfl rfl rfl rfl rfl (fun _ => rfl) (by assumption) rfl) ?_))
   (first | (refine AL.no rfl rfl rfl rfl ?_) | (refine AL.noU rfl ⟨_, rfl, rfl⟩ rfl ?_) | (refine AL.cally (post := ?pc129) rfl rfl (sm_call (args := [_, _, _]) ?hc129 ⟨Tryd.func47, rfl, rfl, rfl, rfl⟩ rfl rfl rfl rfl) ?_; (case hc129 => (first | (refine Fn.decT (am_In _ _ _) ?_; omega) | (refine Fn.decF (am_In _ _ _) ?_; omega) | exact am_In _ _ _)); rintro _ rfl -; try dsimp only))
   (first | (refine AL.noV rfl rfl rfl rfl ?_) | (refine AL.noU rfl ⟨_, rfl, rfl⟩ rfl ?_) | (refine AL.rpy rfl rfl rfl (rp_not rfl rfl) ?_))
   (first | (refine AL.noV rfl rfl rfl rfl ?_) | (refine AL.noU rfl ⟨_, rfl, rfl⟩ rfl ?_) | (refine AL.rpy rfl rfl rfl (rp_pick rfl rfl rfl) ?_))
   refine AL.rp rfl rfl (rp_pick rfl rfl rfl) ?_
   refine AL.rp rfl rfl (rp_move rfl rfl) ?_
   (first | (refine AL.noV rfl rfl rfl rfl ?_) | (refine AL.noU rfl ⟨_, rfl, rfl⟩ rfl ?_) | (refine AL.rpy rfl rfl rfl (rp_move rfl rfl) ?_))
   (first | (refine AL.noV rfl rfl rfl rfl ?_) | (refine AL.noU rfl ⟨_, rfl, rfl⟩ rfl ?_) | (refine AL.rpy rfl rfl rfl (rp_move rfl rfl) ?_))
   (first | (refine AL.noV rfl rfl rfl rfl ?_) | (refine AL.noU rfl ⟨_, rfl, rfl⟩ rfl ?_) | (refine AL.rpy rfl rfl rfl (rp_field_ref Tryd.underlying60 rfl rfl rfl inf3 (by decide) rfl) ?_) | (refine AL.rpy rfl rfl rfl (rp_field_ad Tryd.underlying60 rfl rfl rfl inf3 (by decide) rfl) ?_))
   (first | (refine AL.noV rfl rfl rfl rfl ?_) | (refine AL.noU rfl ⟨_, rfl, rfl⟩ rfl ?_) | (refine AL.rdy rfl rfl rfl (rd_load_ref Tryd.underlying3 rfl rfl rfl rfl rfl rfl) ?_) | (refine AL.rdy rfl rfl rfl (rd_load_ad Tryd.underlying3 rfl rfl rfl rfl) ?_) | (refine AL.rdy rfl rfl rfl (rd_load_map Tryd.underlying3 rfl rfl rfl rfl rfl rfl (by assumption)) ?_) | (refine AL.rdy rfl rfl rfl (rd_load_flat Tryd.underlying3 rfl rfl rfl rfl rfl rfl (fun _ => rfl) (by assumption) rfl) ?_))
   (first | (refine AL.no rfl rfl rfl rfl ?_) | (refine AL.noU rfl ⟨_, rfl, rfl⟩ rfl ?_) | (refine AL.cally (post := ?pc130) rfl rfl (sm_call (args := [_, _, _]) ?hc130 ⟨Tryd.func47, rfl, rfl, rfl, rfl⟩ rfl rfl rfl rfl) ?_; (case hc130 => (first | (refine Fn.decT (am_In _ _ _) ?_; omega) | (refine Fn.decF (am_In _ _ _) ?_; omega) | exact am_In _ _ _)); rintro _ rfl -; try dsimp only))
   (first | (refine AL.noV rfl rfl rfl rfl ?_) | (refine AL.noU rfl ⟨_, rfl, rfl⟩ rfl ?_) | (refine AL.rpy rfl rfl rfl (rp_not rfl rfl) ?_))
   (first | (refine AL.noV rfl rfl rfl rfl ?_) | (refine AL.noU rfl ⟨_, rfl, rfl⟩ rfl ?_) | (refine AL.rpy rfl rfl rfl (rp_pick rfl rfl rfl) ?_))
   refine AL.rp rfl rfl (rp_pick rfl rfl rfl) ?_
   refine AL.nil ?_
   try simp only [thenS, S.put, S.newObj, setL, V.cs, List.length_cons, List.length_nil, List.take_succ_cons, List.take_zero, List.drop_succ_cons, List.drop_zero, List.drop_nil, List.nil_append, List.cons_append, List.append_nil, Nat.zero_add, Nat.reduceAdd, List.map_cons, List.map_nil, List.set_cons_zero, List.set_cons_succ]
   refine AW.condT rfl ?_
   refine AW.seq ?_
   refine AW.region ?_
   refine AL.rp rfl rfl (rp_assign rfl rfl) ?_
   refine AL.rp rfl rfl (rp_assign rfl rfl) ?_
   refine AL.nil ?_
   try simp only [thenS, S.put]
   refine AW.ret ?_
   exact ⟨[_, _], ⟨rfl, rfl, trivial⟩, rfl, by simp [tupOf, V.pure, V.has, V.hasL]⟩
 by_cases hn : nmB xn.data.toList = true
 rotate_left
 ·have hn' : nmB xn.data.toList = false := by simpa using hn
  have hcn := am_NameMay xn
  rw [hn'] at hcn
  have hE' : stE ⟨k, xt, xa, xb, xn⟩ = 9 := stE_n (k := k) (p := 3) rfl h1 h2 hp (by simp only [badR, hasT, hasA, hasB, rgOk]; simp; omega) (by simp [badN, hasN, hn'])
  rw [hE'] at hE
  obtain rfl : S1 = ⟨#[]⟩ := by rw [← hS]; unfold stS; rw [hE', if_neg (by decide)]
  subst hE
  refine Fn.intro (n := 111) ⟨Tryd.func28, rfl, rfl, rfl, rfl⟩ (by simp [V.pure, V.has, V.hasL]) (by simp) fun w0 out => ?_
  refine AW.seq ?_
  refine AW.region ?_
  refine AL.sm rfl (sm_box 1 rfl rfl rfl (by first | rfl | simp [S.clean, S.put, S.newObj, S.forget, V.has, V.hasL, junkIf, setL, V.cs, hasL_i, hasL_d, hasL_b, hasL_s, hasL_n, hasL_rep, hasL_flat, hasL_append, -List.map_set]) rfl) ?_
  refine AL.rp rfl rfl (rp_assign rfl rfl) ?_
  refine AL.rp rfl rfl (rp_assign rfl rfl) ?_
  refine AL.nil ?_
  try simp only [thenS, S.put, S.newObj, setL, V.cs, List.length_cons, List.length_nil, List.take_succ_cons, List.take_zero, List.drop_succ_cons, List.drop_zero, List.drop_nil, List.nil_append, List.cons_append, List.append_nil, Nat.zero_add, Nat.reduceAdd, List.map_cons, List.map_nil, List.set_cons_zero, List.set_cons_succ, enum]
  refine AW.seq ?_
  refine AW.region ?_
  (first | (refine AL.rp rfl rfl (rp_field_ref Tryd.underlying60 rfl rfl rfl inf3 (by decide) rfl) ?_) | (refine AL.rp rfl rfl (rp_field_ad Tryd.underlying60 rfl rfl rfl inf3 (by decide) rfl) ?_))
  (first | (refine AL.rd rfl rfl (rd_load_ref Tryd.underlying3 rfl rfl rfl rfl rfl rfl) ?_) | (refine AL.rd rfl rfl (rd_load_ad Tryd.underlying3 rfl rfl rfl rfl) ?_) | (refine AL.rd rfl rfl (rd_load_map Tryd.underlying3 rfl rfl rfl rfl rfl rfl (by assumption)) ?_) | (refine AL.rd rfl rfl (rd_load_flat Tryd.underlying3 rfl rfl rfl rfl rfl rfl (fun _ => rfl) (by assumption) rfl) ?_))
  refine AL.call (post := ?pc131) rfl (sm_call (args := [_]) ?hc131 ⟨Tryd.func52, rfl, rfl, rfl, rfl⟩ rfl rfl rfl rfl) ?_
  case hc131 => exact hsw
  rintro _ rfl -
  try dsimp only
  refine AL.rp rfl rfl (rp_move rfl rfl) ?_
  refine AL.rp rfl rfl (rp_extract rfl rfl rfl) ?_
  refine AL.rp rfl rfl (rp_extract rfl rfl rfl) ?_
  refine AL.rp rfl rfl (rp_extract rfl rfl rfl) ?_
  refine AL.rp rfl rfl (rp_extract rfl rfl rfl) ?_
  refine AL.rp rfl rfl (rp_extract rfl rfl rfl) ?_
  refine AL.rp rfl rfl (rp_assign rfl rfl) ?_
  refine AL.rp rfl rfl (rp_assign rfl rfl) ?_
  refine AL.rp rfl rfl (rp_assign rfl rfl) ?_
  refine AL.rp rfl rfl (rp_assign rfl rfl) ?_
  refine AL.rp rfl rfl (rp_assign rfl rfl) ?_
  refine AL.nil ?_
  try simp only [thenS, S.put, S.newObj, setL, V.cs, List.length_cons, List.length_nil, List.take_succ_cons, List.take_zero, List.drop_succ_cons, List.drop_zero, List.drop_nil, List.nil_append, List.cons_append, List.append_nil, Nat.zero_add, Nat.reduceAdd, List.map_cons, List.map_nil, List.set_cons_zero, List.set_cons_succ]
  refine AW.seq ?_
  refine AW.seq ?_
  refine AW.region ?_
  refine AL.rp rfl rfl (rp_move rfl rfl) ?_
  (first | (refine AL.rp rfl rfl (rp_eqlsT rfl rfl rfl (by assumption)) ?_) | (refine AL.rp rfl rfl (rp_eqlsF rfl rfl rfl (by assumption)) ?_) | (refine AL.rp rfl rfl (rp_eqls rfl rfl rfl) ?_))
  refine AL.nil ?_
  try simp only [thenS, S.put]
  refine AW.condF rfl ?_
  refine AW.skip ?_
  try simp only [thenS]
  refine AW.seq ?_
  refine AW.seq ?_
  refine AW.region ?_
  refine AL.rp rfl rfl (rp_move rfl rfl) ?_
  refine AL.rp rfl rfl (rp_move rfl rfl) ?_
  (first | (refine AL.noV rfl rfl rfl rfl ?_) | (refine AL.noU rfl ⟨_, rfl, rfl⟩ rfl ?_) | (refine AL.rpy rfl rfl rfl (rp_field_ref Tryd.underlying60 rfl rfl rfl inf3 (by decide) rfl) ?_) | (refine AL.rpy rfl rfl rfl (rp_field_ad Tryd.underlying60 rfl rfl rfl inf3 (by decide) rfl) ?_))
  (first | (refine AL.noV rfl rfl rfl rfl ?_) | (refine AL.noU rfl ⟨_, rfl, rfl⟩ rfl ?_) | (refine AL.rdy rfl rfl rfl (rd_load_ref Tryd.underlying3 rfl rfl rfl rfl rfl rfl) ?_) | (refine AL.rdy rfl rfl rfl (rd_load_ad Tryd.underlying3 rfl rfl rfl rfl) ?_) | (refine AL.rdy rfl rfl rfl (rd_load_map Tryd.underlying3 rfl rfl rfl rfl rfl rfl (by assumption)) ?_) | (refine AL.rdy rfl rfl rfl (rd_load_flat Tryd.underlying3 rfl rfl rfl rfl rfl rfl (fun _ => rfl) (by assumption) rfl) ?_))
  (first | (refine AL.no rfl rfl rfl rfl ?_) | (refine AL.noU rfl ⟨_, rfl, rfl⟩ rfl ?_) | (refine AL.cally (post := ?pc132) rfl rfl (sm_call (args := [_, _, _]) ?hc132 ⟨Tryd.func47, rfl, rfl, rfl, rfl⟩ rfl rfl rfl rfl) ?_; (case hc132 => (first | (refine Fn.decT (am_In _ _ _) ?_; omega) | (refine Fn.decF (am_In _ _ _) ?_; omega) | exact am_In _ _ _)); rintro _ rfl -; try dsimp only))
  (first | (refine AL.noV rfl rfl rfl rfl ?_) | (refine AL.noU rfl ⟨_, rfl, rfl⟩ rfl ?_) | (refine AL.rpy rfl rfl rfl (rp_not rfl rfl) ?_))
  refine AL.rp rfl rfl (rp_pick rfl rfl rfl) ?_
  refine AL.rp rfl rfl (rp_move rfl rfl) ?_
  (first | (refine AL.noV rfl rfl rfl rfl ?_) | (refine AL.noU rfl ⟨_, rfl, rfl⟩ rfl ?_) | (refine AL.rpy rfl rfl rfl (rp_move rfl rfl) ?_))
  (first | (refine AL.noV rfl rfl rfl rfl ?_) | (refine AL.noU rfl ⟨_, rfl, rfl⟩ rfl ?_) | (refine AL.rpy rfl rfl rfl (rp_move rfl rfl) ?_))
  (first | (refine AL.noV rfl rfl rfl rfl ?_) | (refine AL.noU rfl ⟨_, rfl, rfl⟩ rfl ?_) | (refine AL.rpy rfl rfl rfl (rp_field_ref Tryd.underlying60 rfl rfl rfl inf3 (by decide) rfl) ?_) | (refine AL.rpy rfl rfl rfl (rp_field_ad Tryd.underlying60 rfl rfl rfl inf3 (by decide) rfl) ?_))
  (first | (refine AL.noV rfl rfl rfl rfl ?_) | (refine AL.noU rfl ⟨_, rfl, rfl⟩ rfl ?_) | (refine AL.rdy rfl rfl rfl (rd_load_ref Tryd.underlying3 rfl rfl rfl rfl rfl rfl) ?_) | (refine AL.rdy rfl rfl rfl (rd_load_ad Tryd.underlying3 rfl rfl rfl rfl) ?_) | (refine AL.rdy rfl rfl rfl (rd_load_map Tryd.underlying3 rfl rfl rfl rfl rfl rfl (by assumption)) ?_) | (refine AL.rdy rfl rfl rfl (rd_load_flat Tryd.underlying3 rfl rfl rfl rfl rfl rfl (fun _ => rfl) (by assumption) rfl) ?_))
  (first | (refine AL.no rfl rfl rfl rfl ?_) | (refine AL.noU rfl ⟨_, rfl, rfl⟩ rfl ?_) | (refine AL.cally (post := ?pc133) rfl rfl (sm_call (args := [_, _, _]) ?hc133 ⟨Tryd.func47, rfl, rfl, rfl, rfl⟩ rfl rfl rfl rfl) ?_; (case hc133 => (first | (refine Fn.decT (am_In _ _ _) ?_; omega) | (refine Fn.decF (am_In _ _ _) ?_; omega) | exact am_In _ _ _)); rintro _ rfl -; try dsimp only))
  (first | (refine AL.noV rfl rfl rfl rfl ?_) | (refine AL.noU rfl ⟨_, rfl, rfl⟩ rfl ?_) | (refine AL.rpy rfl rfl rfl (rp_not rfl rfl) ?_))
  (first | (refine AL.noV rfl rfl rfl rfl ?_) | (refine AL.noU rfl ⟨_, rfl, rfl⟩ rfl ?_) | (refine AL.rpy rfl rfl rfl (rp_pick rfl rfl rfl) ?_))
  refine AL.rp rfl rfl (rp_pick rfl rfl rfl) ?_
  refine AL.rp rfl rfl (rp_move rfl rfl) ?_
  (first | (refine AL.noV rfl rfl rfl rfl ?_) | (refine AL.noU rfl ⟨_, rfl, rfl⟩ rfl ?_) | (refine AL.rpy rfl rfl rfl (rp_move rfl rfl) ?_))
  (first | (refine AL.noV rfl rfl rfl rfl ?_) | (refine AL.noU rfl ⟨_, rfl, rfl⟩ rfl ?_) | (refine AL.rpy rfl rfl rfl (rp_move rfl rfl) ?_))
  (first | (refine AL.noV rfl rfl rfl rfl ?_) | (refine AL.noU rfl ⟨_, rfl, rfl⟩ rfl ?_) | (refine AL.rpy rfl rfl rfl (rp_field_ref Tryd.underlying60 rfl rfl rfl inf3 (by decide) rfl) ?_) | (refine AL.rpy rfl rfl rfl (rp_field_ad Tryd.underlying60 rfl rfl rfl inf3 (by decide) rfl) ?_))
  (first | (refine AL.noV rfl rfl rfl rfl ?_) | (refine AL.noU rfl ⟨_, rfl, rfl⟩ rfl ?_) | (refine AL.rdy rfl rfl rfl (rd_load_ref Tryd.underlying3 rfl rfl rfl rfl rfl rfl) ?_) | (refine AL.rdy rfl rfl rfl (rd_load_ad Tryd.underlying3 rfl rfl rfl rfl) ?_) | (refine AL.rdy rfl rfl rfl (rd_load_map Tryd.underlying3 rfl rfl rfl rfl rfl rfl (by assumption)) ?_) | (refine AL.rdy rfl rfl rfl (rd_load_flat Tryd.underlying3 rfl rfl rfl rfl rfl rfl (fun _ => rfl) (by assumption) rfl) ?_))
  (first | (refine AL.no rfl rfl rfl rfl ?_) | (refine AL.noU rfl ⟨_, rfl, rfl⟩ rfl ?_) | (refine AL.cally (post := ?pc134) rfl rfl (sm_call (args := [_, _, _]) ?hc134 ⟨Tryd.func47, rfl, rfl, rfl, rfl⟩ rfl rfl rfl rfl) ?_; (case hc134 => (first | (refine Fn.decT (am_In _ _ _) ?_; omega) | (refine Fn.decF (am_In _ _ _) ?_; omega) | exact am_In _ _ _)); rintro _ rfl -; try dsimp only))
  (first | (refine AL.noV rfl rfl rfl rfl ?_) | (refine AL.noU rfl ⟨_, rfl, rfl⟩ rfl ?_) | (refine AL.rpy rfl rfl rfl (rp_not rfl rfl) ?_))
  (first | (refine AL.noV rfl rfl rfl rfl ?_) | (refine AL.noU rfl ⟨_, rfl, rfl⟩ rfl ?_) | (refine AL.rpy rfl rfl rfl (rp_pick rfl rfl rfl) ?_))
  refine AL.rp rfl rfl (rp_pick rfl rfl rfl) ?_
  refine AL.nil ?_
  try simp only [thenS, S.put, S.newObj, setL, V.cs, List.length_cons, List.length_nil, List.take_succ_cons, List.take_zero, List.drop_succ_cons, List.drop_zero, List.drop_nil, List.nil_append, List.cons_append, List.append_nil, Nat.zero_add, Nat.reduceAdd, List.map_cons, List.map_nil, List.set_cons_zero, List.set_cons_succ]
  refine AW.condF rfl ?_
  refine AW.skip ?_
  try simp only [thenS]
  refine AW.seq ?_
  refine AW.seq ?_
  refine AW.region ?_
  refine AL.rp rfl rfl (rp_move rfl rfl) ?_
  refine AL.rp rfl rfl (rp_move rfl rfl) ?_
  (first | (refine AL.noV rfl rfl rfl rfl ?_) | (refine AL.noU rfl ⟨_, rfl, rfl⟩ rfl ?_) | (refine AL.rpy rfl rfl rfl (rp_field_ref Tryd.underlying60 rfl rfl rfl inf9 (by decide) rfl) ?_) | (refine AL.rpy rfl rfl rfl (rp_field_ad Tryd.underlying60 rfl rfl rfl inf9 (by decide) rfl) ?_))
  (first | (refine AL.noV rfl rfl rfl rfl ?_) | (refine AL.noU rfl ⟨_, rfl, rfl⟩ rfl ?_) | (refine AL.rdy rfl rfl rfl (rd_load_ref Tryd.underlying9 rfl rfl rfl rfl rfl rfl) ?_) | (refine AL.rdy rfl rfl rfl (rd_load_ad Tryd.underlying9 rfl rfl rfl rfl) ?_) | (refine AL.rdy rfl rfl rfl (rd_load_map Tryd.underlying9 rfl rfl rfl rfl rfl rfl (by assumption)) ?_) | (refine AL.rdy rfl rfl rfl (rd_load_flat Tryd.underlying9 rfl rfl rfl rfl rfl rfl (fun _ => rfl) (by assumption) rfl) ?_))
  (first | (refine AL.no rfl rfl rfl rfl ?_) | (refine AL.noU rfl ⟨_, rfl, rfl⟩ rfl ?_) | (refine AL.cally (post := ?pc135) rfl rfl (sm_call (args := [_]) ?hc135 ⟨Tryd.func48, rfl, rfl, rfl, rfl⟩ rfl rfl rfl rfl) ?_; (case hc135 => (first | assumption | exact am_NameMay _)); rintro _ rfl -; try dsimp only))
  (first | (refine AL.noV rfl rfl rfl rfl ?_) | (refine AL.noU rfl ⟨_, rfl, rfl⟩ rfl ?_) | (refine AL.rpy rfl rfl rfl (rp_not rfl rfl) ?_))
  refine AL.rp rfl rfl (rp_pick rfl rfl rfl) ?_
  refine AL.nil ?_
  try simp only [thenS, S.put, S.newObj, setL, V.cs, List.length_cons, List.length_nil, List.take_succ_cons, List.take_zero, List.drop_succ_cons, List.drop_zero, List.drop_nil, List.nil_append, List.cons_append, List.append_nil, Nat.zero_add, Nat.reduceAdd, List.map_cons, List.map_nil, List.set_cons_zero, List.set_cons_succ]
  refine AW.condT rfl ?_
  refine AW.seq ?_
  refine AW.region ?_
  refine AL.rp rfl rfl (rp_assign rfl rfl) ?_
  refine AL.rp rfl rfl (rp_assign rfl rfl) ?_
  refine AL.nil ?_
  try simp only [thenS, S.put]
  refine AW.ret ?_
  exact ⟨[_, _], ⟨rfl, rfl, trivial⟩, rfl, by simp [tupOf, V.pure, V.has, V.hasL]⟩
 have hcn := am_NameMay xn
 rw [hn] at hcn
 have hns := nmB_size hn
 by_cases zt : xt = 0
 rotate_left
 ·skip
  have hE' : stE ⟨k, xt, xa, xb, xn⟩ = 3 := stE_f (k := k) (p := 3) rfl h1 h2 hp (by simp only [badR, hasT, hasA, hasB, rgOk]; simp; omega) (by simp [badN, hasN, hn]) (by simp [badF, hasT, hasA, hasB, hasN, zt])
  rw [hE'] at hE
  obtain rfl : S1 = ⟨#[]⟩ := by rw [← hS]; unfold stS; rw [hE', if_neg (by decide)]
  subst hE
  refine Fn.intro (n := 111) ⟨Tryd.func28, rfl, rfl, rfl, rfl⟩ (by simp [V.pure, V.has, V.hasL]) (by simp) fun w0 out => ?_
  refine AW.seq ?_
  refine AW.region ?_
  refine AL.sm rfl (sm_box 1 rfl rfl rfl (by first | rfl | simp [S.clean, S.put, S.newObj, S.forget, V.has, V.hasL, junkIf, setL, V.cs, hasL_i, hasL_d, hasL_b, hasL_s, hasL_n, hasL_rep, hasL_flat, hasL_append, -List.map_set]) rfl) ?_
  refine AL.rp rfl rfl (rp_assign rfl rfl) ?_
  refine AL.rp rfl rfl (rp_assign rfl rfl) ?_
  refine AL.nil ?_
  try simp only [thenS, S.put, S.newObj, setL, V.cs, List.length_cons, List.length_nil, List.take_succ_cons, List.take_zero, List.drop_succ_cons, List.drop_zero, List.drop_nil, List.nil_append, List.cons_append, List.append_nil, Nat.zero_add, Nat.reduceAdd, List.map_cons, List.map_nil, List.set_cons_zero, List.set_cons_succ, enum]
  refine AW.seq ?_
  refine AW.region ?_
  (first | (refine AL.rp rfl rfl (rp_field_ref Tryd.underlying60 rfl rfl rfl inf3 (by decide) rfl) ?_) | (refine AL.rp rfl rfl (rp_field_ad Tryd.underlying60 rfl rfl rfl inf3 (by decide) rfl) ?_))
  (first | (refine AL.rd rfl rfl (rd_load_ref Tryd.underlying3 rfl rfl rfl rfl rfl rfl) ?_) | (refine AL.rd rfl rfl (rd_load_ad Tryd.underlying3 rfl rfl rfl rfl) ?_) | (refine AL.rd rfl rfl (rd_load_map Tryd.underlying3 rfl rfl rfl rfl rfl rfl (by assumption)) ?_) | (refine AL.rd rfl rfl (rd_load_flat Tryd.underlying3 rfl rfl rfl rfl rfl rfl (fun _ => rfl) (by assumption) rfl) ?_))
  refine AL.call (post := ?pc136) rfl (sm_call (args := [_]) ?hc136 ⟨Tryd.func52, rfl, rfl, rfl, rfl⟩ rfl rfl rfl rfl) ?_
  case hc136 => exact hsw
  rintro _ rfl -
  try dsimp only
  refine AL.rp rfl rfl (rp_move rfl rfl) ?_
  refine AL.rp rfl rfl (rp_extract rfl rfl rfl) ?_
  refine AL.rp rfl rfl (rp_extract rfl rfl rfl) ?_
  refine AL.rp rfl rfl (rp_extract rfl rfl rfl) ?_
  refine AL.rp rfl rfl (rp_extract rfl rfl rfl) ?_
  refine AL.rp rfl rfl (rp_extract rfl rfl rfl) ?_
  refine AL.rp rfl rfl (rp_assign rfl rfl) ?_
  refine AL.rp rfl rfl (rp_assign rfl rfl) ?_
  refine AL.rp rfl rfl (rp_assign rfl rfl) ?_
  refine AL.rp rfl rfl (rp_assign rfl rfl) ?_
  refine AL.rp rfl rfl (rp_assign rfl rfl) ?_
  refine AL.nil ?_
  try simp only [thenS, S.put, S.newObj, setL, V.cs, List.length_cons, List.length_nil, List.take_succ_cons, List.take_zero, List.drop_succ_cons, List.drop_zero, List.drop_nil, List.nil_append, List.cons_append, List.append_nil, Nat.zero_add, Nat.reduceAdd, List.map_cons, List.map_nil, List.set_cons_zero, List.set_cons_succ]
  refine AW.seq ?_
  refine AW.seq ?_
  refine AW.region ?_
  refine AL.rp rfl rfl (rp_move rfl rfl) ?_
  (first | (refine AL.rp rfl rfl (rp_eqlsT rfl rfl rfl (by assumption)) ?_) | (refine AL.rp rfl rfl (rp_eqlsF rfl rfl rfl (by assumption)) ?_) | (refine AL.rp rfl rfl (rp_eqls rfl rfl rfl) ?_))
  refine AL.nil ?_
  try simp only [thenS, S.put]
  refine AW.condF rfl ?_
  refine AW.skip ?_
  try simp only [thenS]
  refine AW.seq ?_
  refine AW.seq ?_
  refine AW.region ?_
  refine AL.rp rfl rfl (rp_move rfl rfl) ?_
  refine AL.rp rfl rfl (rp_move rfl rfl) ?_
  (first | (refine AL.noV rfl rfl rfl rfl ?_) | (refine AL.noU rfl ⟨_, rfl, rfl⟩ rfl ?_) | (refine AL.rpy rfl rfl rfl (rp_field_ref Tryd.underlying60 rfl rfl rfl inf3 (by decide) rfl) ?_) | (refine AL.rpy rfl rfl rfl (rp_field_ad Tryd.underlying60 rfl rfl rfl inf3 (by decide) rfl) ?_))
  (first | (refine AL.noV rfl rfl rfl rfl ?_) | (refine AL.noU rfl ⟨_, rfl, rfl⟩ rfl ?_) | (refine AL.rdy rfl rfl rfl (rd_load_ref Tryd.underlying3 rfl rfl rfl rfl rfl rfl) ?_) | (refine AL.rdy rfl rfl rfl (rd_load_ad Tryd.underlying3 rfl rfl rfl rfl) ?_) | (refine AL.rdy rfl rfl rfl (rd_load_map Tryd.underlying3 rfl rfl rfl rfl rfl rfl (by assumption)) ?_) | (refine AL.rdy rfl rfl rfl (rd_load_flat Tryd.underlying3 rfl rfl rfl rfl rfl rfl (fun _ => rfl) (by assumption) rfl) ?_))
  (first | (refine AL.no rfl rfl rfl rfl ?_) | (refine AL.noU rfl ⟨_, rfl, rfl⟩ rfl ?_) | (refine AL.cally (post := ?pc137) rfl rfl (sm_call (args := [_, _, _]) ?hc137 ⟨Tryd.func47, rfl, rfl, rfl, rfl⟩ rfl rfl rfl rfl) ?_; (case hc137 => (first | (refine Fn.decT (am_In _ _ _) ?_; omega) | (refine Fn.decF (am_In _ _ _) ?_; omega) | exact am_In _ _ _)); rintro _ rfl -; try dsimp only))
  (first | (refine AL.noV rfl rfl rfl rfl ?_) | (refine AL.noU rfl ⟨_, rfl, rfl⟩ rfl ?_) | (refine AL.rpy rfl rfl rfl (rp_not rfl rfl) ?_))
  refine AL.rp rfl rfl (rp_pick rfl rfl rfl) ?_
  refine AL.rp rfl rfl (rp_move rfl rfl) ?_
  (first | (refine AL.noV rfl rfl rfl rfl ?_) | (refine AL.noU rfl ⟨_, rfl, rfl⟩ rfl ?_) | (refine AL.rpy rfl rfl rfl (rp_move rfl rfl) ?_))
  (first | (refine AL.noV rfl rfl rfl rfl ?_) | (refine AL.noU rfl ⟨_, rfl, rfl⟩ rfl ?_) | (refine AL.rpy rfl rfl rfl (rp_move rfl rfl) ?_))
  (first | (refine AL.noV rfl rfl rfl rfl ?_) | (refine AL.noU rfl ⟨_, rfl, rfl⟩ rfl ?_) | (refine AL.rpy rfl rfl rfl (rp_field_ref Tryd.underlying60 rfl rfl rfl inf3 (by decide) rfl) ?_) | (refine AL.rpy rfl rfl rfl (rp_field_ad Tryd.underlying60 rfl rfl rfl inf3 (by decide) rfl) ?_))
  (first | (refine AL.noV rfl rfl rfl rfl ?_) | (refine AL.noU rfl ⟨_, rfl, rfl⟩ rfl ?_) | (refine AL.rdy rfl rfl rfl (rd_load_ref Tryd.underlying3 rfl rfl rfl rfl rfl rfl) ?_) | (refine AL.rdy rfl rfl rfl (rd_load_ad Tryd.underlying3 rfl rfl rfl rfl) ?_) | (refine AL.rdy rfl rfl rfl (rd_load_map Tryd.underlying3 rfl rfl rfl rfl rfl rfl (by assumption)) ?_) | (refine AL.rdy rfl rfl rfl (rd_load_flat Tryd.underlying3 rfl rfl rfl rfl rfl rfl (fun _ => rfl) (by assumption) rfl) ?_))
  (first | (refine AL.no rfl rfl rfl rfl ?_) | (refine AL.noU rfl ⟨_, rfl, rfl⟩ rfl ?_) | (refine AL.cally (post := ?pc138) rfl rfl (sm_call (args := [_, _, _]) ?hc138 ⟨Tryd.func47, rfl, rfl, rfl, rfl⟩ rfl rfl rfl rfl) ?_; (case hc138 => (first | (refine Fn.decT (am_In _ _ _) ?_; omega) | (refine Fn.decF (am_In _ _ _) ?_; omega) | exact am_In _ _ _)); rintro _ rfl -; try dsimp only))
  (first | (refine AL.noV rfl rfl rfl rfl ?_) | (refine AL.noU rfl ⟨_, rfl, rfl⟩ rfl ?_) | (refine AL.rpy rfl rfl rfl (rp_not rfl rfl) ?_))
  (first | (refine AL.noV rfl rfl rfl rfl ?_) | (refine AL.noU rfl ⟨_, rfl, rfl⟩ rfl ?_) | (refine AL.rpy rfl rfl rfl (rp_pick rfl rfl rfl) ?_))
  refine AL.rp rfl rfl (rp_pick rfl rfl rfl) ?_
  refine AL.rp rfl rfl (rp_move rfl rfl) ?_
  (first | (refine AL.noV rfl rfl rfl rfl ?_) | (refine AL.noU rfl ⟨_, rfl, rfl⟩ rfl ?_) | (refine AL.rpy rfl rfl rfl (rp_move rfl rfl) ?_))
  (first | (refine AL.noV rfl rfl rfl rfl ?_) | (refine AL.noU rfl ⟨_, rfl, rfl⟩ rfl ?_) | (refine AL.rpy rfl rfl rfl (rp_move rfl rfl) ?_))
  (first | (refine AL.noV rfl rfl rfl rfl ?_) | (refine AL.noU rfl ⟨_, rfl, rfl⟩ rfl ?_) | (refine AL.rpy rfl rfl rfl (rp_field_ref Tryd.underlying60 rfl rfl rfl inf3 (by decide) rfl) ?_) | (refine AL.rpy rfl rfl rfl (rp_field_ad Tryd.underlying60 rfl rfl rfl inf3 (by decide) rfl) ?_))
  (first | (refine AL.noV rfl rfl rfl rfl ?_) | (refine AL.noU rfl ⟨_, rfl, rfl⟩ rfl ?_) | (refine AL.rdy rfl rfl rfl (rd_load_ref Tryd.underlying3 rfl rfl rfl rfl rfl rfl) ?_) | (refine AL.rdy rfl rfl rfl (rd_load_ad Tryd.underlying3 rfl rfl rfl rfl) ?_) | (refine AL.rdy rfl rfl rfl (rd_load_map Tryd.underlying3 rfl rfl rfl rfl rfl rfl (by assumption)) ?_) | (refine AL.rdy rfl rfl rfl (rd_load_flat Tryd.underlying3 rfl rfl rfl rfl rfl rfl (fun _ => rfl) (by assumption) rfl) ?_))
  (first | (refine AL.no rfl rfl rfl rfl ?_) | (refine AL.noU rfl ⟨_, rfl, rfl⟩ rfl ?_) | (refine AL.cally (post := ?pc139) rfl rfl (sm_call (args := [_, _, _]) ?hc139 ⟨Tryd.func47, rfl, rfl, rfl, rfl⟩ rfl rfl rfl rfl) ?_; (case hc139 => (first | (refine Fn.decT (am_In _ _ _) ?_; omega) | (refine Fn.decF (am_In _ _ _) ?_; omega) | exact am_In _ _ _)); rintro _ rfl -; try dsimp only))
  (first | (refine AL.noV rfl rfl rfl rfl ?_) | (refine AL.noU rfl ⟨_, rfl, rfl⟩ rfl ?_) | (refine AL.rpy rfl rfl rfl (rp_not rfl rfl) ?_))
  (first | (refine AL.noV rfl rfl rfl rfl ?_) | (refine AL.noU rfl ⟨_, rfl, rfl⟩ rfl ?_) | (refine AL.rpy rfl rfl rfl (rp_pick rfl rfl rfl) ?_))
  refine AL.rp rfl rfl (rp_pick rfl rfl rfl) ?_
  refine AL.nil ?_
  try simp only [thenS, S.put, S.newObj, setL, V.cs, List.length_cons, List.length_nil, List.take_succ_cons, List.take_zero, List.drop_succ_cons, List.drop_zero, List.drop_nil, List.nil_append, List.cons_append, List.append_nil, Nat.zero_add, Nat.reduceAdd, List.map_cons, List.map_nil, List.set_cons_zero, List.set_cons_succ]
  refine AW.condF rfl ?_
  refine AW.skip ?_
  try simp only [thenS]
  refine AW.seq ?_
  refine AW.seq ?_
  refine AW.region ?_
  refine AL.rp rfl rfl (rp_move rfl rfl) ?_
  refine AL.rp rfl rfl (rp_move rfl rfl) ?_
  (first | (refine AL.noV rfl rfl rfl rfl ?_) | (refine AL.noU rfl ⟨_, rfl, rfl⟩ rfl ?_) | (refine AL.rpy rfl rfl rfl (rp_field_ref Tryd.underlying60 rfl rfl rfl inf9 (by decide) rfl) ?_) | (refine AL.rpy rfl rfl rfl (rp_field_ad Tryd.underlying60 rfl rfl rfl inf9 (by decide) rfl) ?_))
  (first | (refine AL.noV rfl rfl rfl rfl ?_) | (refine AL.noU rfl ⟨_, rfl, rfl⟩ rfl ?_) | (refine AL.rdy rfl rfl rfl (rd_load_ref Tryd.underlying9 rfl rfl rfl rfl rfl rfl) ?_) | (refine AL.rdy rfl rfl rfl (rd_load_ad Tryd.underlying9 rfl rfl rfl rfl) ?_) | (refine AL.rdy rfl rfl rfl (rd_load_map Tryd.underlying9 rfl rfl rfl rfl rfl rfl (by assumption)) ?_) | (refine AL.rdy rfl rfl rfl (rd_load_flat Tryd.underlying9 rfl rfl rfl rfl rfl rfl (fun _ => rfl) (by assumption) rfl) ?_))
  (first | (refine AL.no rfl rfl rfl rfl ?_) | (refine AL.noU rfl ⟨_, rfl, rfl⟩ rfl ?_) | (refine AL.cally (post := ?pc140) rfl rfl (sm_call (args := [_]) ?hc140 ⟨Tryd.func48, rfl, rfl, rfl, rfl⟩ rfl rfl rfl rfl) ?_; (case hc140 => (first | assumption | exact am_NameMay _)); rintro _ rfl -; try dsimp only))
  (first | (refine AL.noV rfl rfl rfl rfl ?_) | (refine AL.noU rfl ⟨_, rfl, rfl⟩ rfl ?_) | (refine AL.rpy rfl rfl rfl (rp_not rfl rfl) ?_))
  refine AL.rp rfl rfl (rp_pick rfl rfl rfl) ?_
  refine AL.nil ?_
  try simp only [thenS, S.put, S.newObj, setL, V.cs, List.length_cons, List.length_nil, List.take_succ_cons, List.take_zero, List.drop_succ_cons, List.drop_zero, List.drop_nil, List.nil_append, List.cons_append, List.append_nil, Nat.zero_add, Nat.reduceAdd, List.map_cons, List.map_nil, List.set_cons_zero, List.set_cons_succ]
  refine AW.condF rfl ?_
  refine AW.skip ?_
  try simp only [thenS]
  refine AW.seq ?_
  refine AW.seq ?_
  refine AW.region ?_
  refine AL.rp rfl rfl (rp_move rfl rfl) ?_
  refine AL.rp rfl rfl (rp_not rfl rfl) ?_
  refine AL.rp rfl rfl (rp_move rfl rfl) ?_
  (first | (refine AL.noV rfl rfl rfl rfl ?_) | (refine AL.noU rfl ⟨_, rfl, rfl⟩ rfl ?_) | (refine AL.rpy rfl rfl rfl (rp_field_ref Tryd.underlying60 rfl rfl rfl inf3 (by decide) rfl) ?_) | (refine AL.rpy rfl rfl rfl (rp_field_ad Tryd.underlying60 rfl rfl rfl inf3 (by decide) rfl) ?_))
  (first | (refine AL.noV rfl rfl rfl rfl ?_) | (refine AL.noU rfl ⟨_, rfl, rfl⟩ rfl ?_) | (refine AL.rdy rfl rfl rfl (rd_load_ref Tryd.underlying3 rfl rfl rfl rfl rfl rfl) ?_) | (refine AL.rdy rfl rfl rfl (rd_load_ad Tryd.underlying3 rfl rfl rfl rfl) ?_) | (refine AL.rdy rfl rfl rfl (rd_load_map Tryd.underlying3 rfl rfl rfl rfl rfl rfl (by assumption)) ?_) | (refine AL.rdy rfl rfl rfl (rd_load_flat Tryd.underlying3 rfl rfl rfl rfl rfl rfl (fun _ => rfl) (by assumption) rfl) ?_))
  (first | (refine AL.noV rfl rfl rfl rfl ?_) | (refine AL.noU rfl ⟨_, rfl, rfl⟩ rfl ?_) | (refine AL.rpy rfl rfl rfl (rp_neqT rfl rfl rfl (by first | assumption | omega | (dsimp only; omega))) ?_) | (refine AL.rpy rfl rfl rfl (rp_neqF rfl rfl rfl (by first | assumption | omega | (dsimp only; omega))) ?_) | (refine AL.rpy rfl rfl rfl (rp_neq rfl rfl rfl) ?_))
  refine AL.rp rfl rfl (rp_pick rfl rfl rfl) ?_
  refine AL.rp rfl rfl (rp_move rfl rfl) ?_
  (first | (refine AL.noV rfl rfl rfl rfl ?_) | (refine AL.noU rfl ⟨_, rfl, rfl⟩ rfl ?_) | (refine AL.rpy rfl rfl rfl (rp_move rfl rfl) ?_))
  (first | (refine AL.noV rfl rfl rfl rfl ?_) | (refine AL.noU rfl ⟨_, rfl, rfl⟩ rfl ?_) | (refine AL.rpy rfl rfl rfl (rp_not rfl rfl) ?_))
  (first | (refine AL.noV rfl rfl rfl rfl ?_) | (refine AL.noU rfl ⟨_, rfl, rfl⟩ rfl ?_) | (refine AL.rpy rfl rfl rfl (rp_move rfl rfl) ?_))
  (first | (refine AL.noV rfl rfl rfl rfl ?_) | (refine AL.noU rfl ⟨_, rfl, rfl⟩ rfl ?_) | (refine AL.rpy rfl rfl rfl (rp_field_ref Tryd.underlying60 rfl rfl rfl inf3 (by decide) rfl) ?_) | (refine AL.rpy rfl rfl rfl (rp_field_ad Tryd.underlying60 rfl rfl rfl inf3 (by decide) rfl) ?_))
  (first | (refine AL.noV rfl rfl rfl rfl ?_) | (refine AL.noU rfl ⟨_, rfl, rfl⟩ rfl ?_) | (refine AL.rdy rfl rfl rfl (rd_load_ref Tryd.underlying3 rfl rfl rfl rfl rfl rfl) ?_) | (refine AL.rdy rfl rfl rfl (rd_load_ad Tryd.underlying3 rfl rfl rfl rfl) ?_) | (refine AL.rdy rfl rfl rfl (rd_load_map Tryd.underlying3 rfl rfl rfl rfl rfl rfl (by assumption)) ?_) | (refine AL.rdy rfl rfl rfl (rd_load_flat Tryd.underlying3 rfl rfl rfl rfl rfl rfl (fun _ => rfl) (by assumption) rfl) ?_))
  (first | (refine AL.noV rfl rfl rfl rfl ?_) | (refine AL.noU rfl ⟨_, rfl, rfl⟩ rfl ?_) | (refine AL.rpy rfl rfl rfl (rp_neqT rfl rfl rfl (by first | assumption | omega | (dsimp only; omega))) ?_) | (refine AL.rpy rfl rfl rfl (rp_neqF rfl rfl rfl (by first | assumption | omega | (dsimp only; omega))) ?_) | (refine AL.rpy rfl rfl rfl (rp_neq rfl rfl rfl) ?_))
  (first | (refine AL.noV rfl rfl rfl rfl ?_) | (refine AL.noU rfl ⟨_, rfl, rfl⟩ rfl ?_) | (refine AL.rpy rfl rfl rfl (rp_pick rfl rfl rfl) ?_))
  refine AL.rp rfl rfl (rp_pick rfl rfl rfl) ?_
  refine AL.rp rfl rfl (rp_move rfl rfl) ?_
  (first | (refine AL.noV rfl rfl rfl rfl ?_) | (refine AL.noU rfl ⟨_, rfl, rfl⟩ rfl ?_) | (refine AL.rpy rfl rfl rfl (rp_move rfl rfl) ?_))
  (first | (refine AL.noV rfl rfl rfl rfl ?_) | (refine AL.noU rfl ⟨_, rfl, rfl⟩ rfl ?_) | (refine AL.rpy rfl rfl rfl (rp_not rfl rfl) ?_))
  (first | (refine AL.noV rfl rfl rfl rfl ?_) | (refine AL.noU rfl ⟨_, rfl, rfl⟩ rfl ?_) | (refine AL.rpy rfl rfl rfl (rp_move rfl rfl) ?_))
  (first | (refine AL.noV rfl rfl rfl rfl ?_) | (refine AL.noU rfl ⟨_, rfl, rfl⟩ rfl ?_) | (refine AL.rpy rfl rfl rfl (rp_field_ref Tryd.underlying60 rfl rfl rfl inf3 (by decide) rfl) ?_) | (refine AL.rpy rfl rfl rfl (rp_field_ad Tryd.underlying60 rfl rfl rfl inf3 (by decide) rfl) ?_))
  (first | (refine AL.noV rfl rfl rfl rfl ?_) | (refine AL.noU rfl ⟨_, rfl, rfl⟩ rfl ?_) | (refine AL.rdy rfl rfl rfl (rd_load_ref Tryd.underlying3 rfl rfl rfl rfl rfl rfl) ?_) | (refine AL.rdy rfl rfl rfl (rd_load_ad Tryd.underlying3 rfl rfl rfl rfl) ?_) | (refine AL.rdy rfl rfl rfl (rd_load_map Tryd.underlying3 rfl rfl rfl rfl rfl rfl (by assumption)) ?_) | (refine AL.rdy rfl rfl rfl (rd_load_flat Tryd.underlying3 rfl rfl rfl rfl rfl rfl (fun _ => rfl) (by assumption) rfl) ?_))
  (first | (refine AL.noV rfl rfl rfl rfl ?_) | (refine AL.noU rfl ⟨_, rfl, rfl⟩ rfl ?_) | (refine AL.rpy rfl rfl rfl (rp_neqT rfl rfl rfl (by first | assumption | omega | (dsimp only; omega))) ?_) | (refine AL.rpy rfl rfl rfl (rp_neqF rfl rfl rfl (by first | assumption | omega | (dsimp only; omega))) ?_) | (refine AL.rpy rfl rfl rfl (rp_neq rfl rfl rfl) ?_))
  (first | (refine AL.noV rfl rfl rfl rfl ?_) | (refine AL.noU rfl ⟨_, rfl, rfl⟩ rfl ?_) | (refine AL.rpy rfl rfl rfl (rp_pick rfl rfl rfl) ?_))
  refine AL.rp rfl rfl (rp_pick rfl rfl rfl) ?_
  refine AL.rp rfl rfl (rp_move rfl rfl) ?_
  (first | (refine AL.noV rfl rfl rfl rfl ?_) | (refine AL.noU rfl ⟨_, rfl, rfl⟩ rfl ?_) | (refine AL.rpy rfl rfl rfl (rp_move rfl rfl) ?_))
  (first | (refine AL.noV rfl rfl rfl rfl ?_) | (refine AL.noU rfl ⟨_, rfl, rfl⟩ rfl ?_) | (refine AL.rpy rfl rfl rfl (rp_not rfl rfl) ?_))
  (first | (refine AL.noV rfl rfl rfl rfl ?_) | (refine AL.noU rfl ⟨_, rfl, rfl⟩ rfl ?_) | (refine AL.rpy rfl rfl rfl (rp_move rfl rfl) ?_))
  (first | (refine AL.noV rfl rfl rfl rfl ?_) | (refine AL.noU rfl ⟨_, rfl, rfl⟩ rfl ?_) | (refine AL.rpy rfl rfl rfl (rp_field_ref Tryd.underlying60 rfl rfl rfl inf9 (by decide) rfl) ?_) | (refine AL.rpy rfl rfl rfl (rp_field_ad Tryd.underlying60 rfl rfl rfl inf9 (by decide) rfl) ?_))
  (first | (refine AL.noV rfl rfl rfl rfl ?_) | (refine AL.noU rfl ⟨_, rfl, rfl⟩ rfl ?_) | (refine AL.rdy rfl rfl rfl (rd_load_ref Tryd.underlying9 rfl rfl rfl rfl rfl rfl) ?_) | (refine AL.rdy rfl rfl rfl (rd_load_ad Tryd.underlying9 rfl rfl rfl rfl) ?_) | (refine AL.rdy rfl rfl rfl (rd_load_map Tryd.underlying9 rfl rfl rfl rfl rfl rfl (by assumption)) ?_) | (refine AL.rdy rfl rfl rfl (rd_load_flat Tryd.underlying9 rfl rfl rfl rfl rfl rfl (fun _ => rfl) (by assumption) rfl) ?_))
  (first | (refine AL.noV rfl rfl rfl rfl ?_) | (refine AL.noU rfl ⟨_, rfl, rfl⟩ rfl ?_) | (refine AL.rpy rfl rfl rfl (rp_neqsF rfl rfl rfl (by assumption)) ?_) | (refine AL.rpy rfl rfl rfl (rp_neqsT rfl rfl rfl (by assumption)) ?_) | (refine AL.rpy rfl rfl rfl (rp_neqs rfl rfl rfl) ?_))
  (first | (refine AL.noV rfl rfl rfl rfl ?_) | (refine AL.noU rfl ⟨_, rfl, rfl⟩ rfl ?_) | (refine AL.rpy rfl rfl rfl (rp_pick rfl rfl rfl) ?_))
  refine AL.rp rfl rfl (rp_pick rfl rfl rfl) ?_
  refine AL.nil ?_
  try simp only [thenS, S.put]
  refine AW.condT rfl ?_
  refine AW.seq ?_
  refine AW.region ?_
  refine AL.rp rfl rfl (rp_assign rfl rfl) ?_
  refine AL.rp rfl rfl (rp_assign rfl rfl) ?_
  refine AL.nil ?_
  try simp only [thenS, S.put]
  refine AW.ret ?_
  exact ⟨[_, _], ⟨rfl, rfl, trivial⟩, rfl, by simp [tupOf, V.pure, V.has, V.hasL]⟩
 by_cases zb : xb = 0
 rotate_left
 ·skip
  have hE' : stE ⟨k, xt, xa, xb, xn⟩ = 3 := stE_f (k := k) (p := 3) rfl h1 h2 hp (by simp only [badR, hasT, hasA, hasB, rgOk]; simp; omega) (by simp [badN, hasN, hn]) (by simp [badF, hasT, hasA, hasB, hasN, zb])
  rw [hE'] at hE
  obtain rfl : S1 = ⟨#[]⟩ := by rw [← hS]; unfold stS; rw [hE', if_neg (by decide)]
  subst hE
  refine Fn.intro (n := 111) ⟨Tryd.func28, rfl, rfl, rfl, rfl⟩ (by simp [V.pure, V.has, V.hasL]) (by simp) fun w0 out => ?_
  refine AW.seq ?_
  refine AW.region ?_
  refine AL.sm rfl (sm_box 1 rfl rfl rfl (by first | rfl | simp [S.clean, S.put, S.newObj, S.forget, V.has, V.hasL, junkIf, setL, V.cs, hasL_i, hasL_d, hasL_b, hasL_s, hasL_n, hasL_rep, hasL_flat, hasL_append, -List.map_set]) rfl) ?_
  refine AL.rp rfl rfl (rp_assign rfl rfl) ?_
  refine AL.rp rfl rfl (rp_assign rfl rfl) ?_
  refine AL.nil ?_
  try simp only [thenS, S.put, S.newObj, setL, V.cs, List.length_cons, List.length_nil, List.take_succ_cons, List.take_zero, List.drop_succ_cons, List.drop_zero, List.drop_nil, List.nil_append, List.cons_append, List.append_nil, Nat.zero_add, Nat.reduceAdd, List.map_cons, List.map_nil, List.set_cons_zero, List.set_cons_succ, enum]
  refine AW.seq ?_
  refine AW.region ?_
  (first | (refine AL.rp rfl rfl (rp_field_ref Tryd.underlying60 rfl rfl rfl inf3 (by decide) rfl) ?_) | (refine AL.rp rfl rfl (rp_field_ad Tryd.underlying60 rfl rfl rfl inf3 (by decide) rfl) ?_))
  (first | (refine AL.rd rfl rfl (rd_load_ref Tryd.underlying3 rfl rfl rfl rfl rfl rfl) ?_) | (refine AL.rd rfl rfl (rd_load_ad Tryd.underlying3 rfl rfl rfl rfl) ?_) | (refine AL.rd rfl rfl (rd_load_map Tryd.underlying3 rfl rfl rfl rfl rfl rfl (by assumption)) ?_) | (refine AL.rd rfl rfl (rd_load_flat Tryd.underlying3 rfl rfl rfl rfl rfl rfl (fun _ => rfl) (by assumption) rfl) ?_))
  refine AL.call (post := ?pc141) rfl (sm_call (args := [_]) ?hc141 ⟨Tryd.func52, rfl, rfl, rfl, rfl⟩ rfl rfl rfl rfl) ?_
  case hc141 => exact hsw
  rintro _ rfl -
  try dsimp only
  refine AL.rp rfl rfl (rp_move rfl rfl) ?_
  refine AL.rp rfl rfl (rp_extract rfl rfl rfl) ?_
  refine AL.rp rfl rfl (rp_extract rfl rfl rfl) ?_
  refine AL.rp rfl rfl (rp_extract rfl rfl rfl) ?_
  refine AL.rp rfl rfl (rp_extract rfl rfl rfl) ?_
  refine AL.rp rfl rfl (rp_extract rfl rfl rfl) ?_
  refine AL.rp rfl rfl (rp_assign rfl rfl) ?_
  refine AL.rp rfl rfl (rp_assign rfl rfl) ?_
  refine AL.rp rfl rfl (rp_assign rfl rfl) ?_
  refine AL.rp rfl rfl (rp_assign rfl rfl) ?_
  refine AL.rp rfl rfl (rp_assign rfl rfl) ?_
  refine AL.nil ?_
  try simp only [thenS, S.put, S.newObj, setL, V.cs, List.length_cons, List.length_nil, List.take_succ_cons, List.take_zero, List.drop_succ_cons, List.drop_zero, List.drop_nil, List.nil_append, List.cons_append, List.append_nil, Nat.zero_add, Nat.reduceAdd, List.map_cons, List.map_nil, List.set_cons_zero, List.set_cons_succ]
  refine AW.seq ?_
  refine AW.seq ?_
  refine AW.region ?_
  refine AL.rp rfl rfl (rp_move rfl rfl) ?_
  (first | (refine AL.rp rfl rfl (rp_eqlsT rfl rfl rfl (by assumption)) ?_) | (refine AL.rp rfl rfl (rp_eqlsF rfl rfl rfl (by assumption)) ?_) | (refine AL.rp rfl rfl (rp_eqls rfl rfl rfl) ?_))
  refine AL.nil ?_
  try simp only [thenS, S.put]
  refine AW.condF rfl ?_
  refine AW.skip ?_
  try simp only [thenS]
  refine AW.seq ?_
  refine AW.seq ?_
  refine AW.region ?_
  refine AL.rp rfl rfl (rp_move rfl rfl) ?_
  refine AL.rp rfl rfl (rp_move rfl rfl) ?_
  (first | (refine AL.noV rfl rfl rfl rfl ?_) | (refine AL.noU rfl ⟨_, rfl, rfl⟩ rfl ?_) | (refine AL.rpy rfl rfl rfl (rp_field_ref Tryd.underlying60 rfl rfl rfl inf3 (by decide) rfl) ?_) | (refine AL.rpy rfl rfl rfl (rp_field_ad Tryd.underlying60 rfl rfl rfl inf3 (by decide) rfl) ?_))
  (first | (refine AL.noV rfl rfl rfl rfl ?_) | (refine AL.noU rfl ⟨_, rfl, rfl⟩ rfl ?_) | (refine AL.rdy rfl rfl rfl (rd_load_ref Tryd.underlying3 rfl rfl rfl rfl rfl rfl) ?_) | (refine AL.rdy rfl rfl rfl (rd_load_ad Tryd.underlying3 rfl rfl rfl rfl) ?_) | (refine AL.rdy rfl rfl rfl (rd_load_map Tryd.underlying3 rfl rfl rfl rfl rfl rfl (by assumption)) ?_) | (refine AL.rdy rfl rfl rfl (rd_load_flat Tryd.underlying3 rfl rfl rfl rfl rfl rfl (fun _ => rfl) (by assumption) rfl) ?_))
  (first | (refine AL.no rfl rfl rfl rfl ?_) | (refine AL.noU rfl ⟨_, rfl, rfl⟩ rfl ?_) | (refine AL.cally (post := ?pc142) rfl rfl (sm_call (args := [_, _, _]) ?hc142 ⟨Tryd.func47, rfl, rfl, rfl, rfl⟩ rfl rfl rfl rfl) ?_; (case hc142 => (first | (refine Fn.decT (am_In _ _ _) ?_; omega) | (refine Fn.decF (am_In _ _ _) ?_; omega) | exact am_In _ _ _)); rintro _ rfl -; try dsimp only))
  (first | (refine AL.noV rfl rfl rfl rfl ?_) | (refine AL.noU rfl ⟨_, rfl, rfl⟩ rfl ?_) | (refine AL.rpy rfl rfl rfl (rp_not rfl rfl) ?_))
  refine AL.rp rfl rfl (rp_pick rfl rfl rfl) ?_
  refine AL.rp rfl rfl (rp_move rfl rfl) ?_
  (first | (refine AL.noV rfl rfl rfl rfl ?_) | (refine AL.noU rfl ⟨_, rfl, rfl⟩ rfl ?_) | (refine AL.rpy rfl rfl rfl (rp_move rfl rfl) ?_))
  (first | (refine AL.noV rfl rfl rfl rfl ?_) | (refine AL.noU rfl ⟨_, rfl, rfl⟩ rfl ?_) | (refine AL.rpy rfl rfl rfl (rp_move rfl rfl) ?_))
  (first | (refine AL.noV rfl rfl rfl rfl ?_) | (refine AL.noU rfl ⟨_, rfl, rfl⟩ rfl ?_) | (refine AL.rpy rfl rfl rfl (rp_field_ref Tryd.underlying60 rfl rfl rfl inf3 (by decide) rfl) ?_) | (refine AL.rpy rfl rfl rfl (rp_field_ad Tryd.underlying60 rfl rfl rfl inf3 (by decide) rfl) ?_))
  (first | (refine AL.noV rfl rfl rfl rfl ?_) | (refine AL.noU rfl ⟨_, rfl, rfl⟩ rfl ?_) | (refine AL.rdy rfl rfl rfl (rd_load_ref Tryd.underlying3 rfl rfl rfl rfl rfl rfl) ?_) | (refine AL.rdy rfl rfl rfl (rd_load_ad Tryd.underlying3 rfl rfl rfl rfl) ?_) | (refine AL.rdy rfl rfl rfl (rd_load_map Tryd.underlying3 rfl rfl rfl rfl rfl rfl (by assumption)) ?_) | (refine AL.rdy rfl rfl rfl (rd_load_flat Tryd.underlying3 rfl rfl rfl rfl rfl rfl (fun _ => rfl) (by assumption) rfl) ?_))
  (first | (refine AL.no rfl rfl rfl rfl ?_) | (refine AL.noU rfl ⟨_, rfl, rfl⟩ rfl ?_) | (refine AL.cally (post := ?pc143) rfl rfl (sm_call (args := [_, _, _]) ?hc143 ⟨Tryd.func47, rfl, rfl, rfl, rfl⟩ rfl rfl rfl rfl) ?_; (case hc143 => (first | (refine Fn.decT (am_In _ _ _) ?_; omega) | (refine Fn.decF (am_In _ _ _) ?_; omega) | exact am_In _ _ _)); rintro _ rfl -; try dsimp only))
  (first | (refine AL.noV rfl rfl rfl rfl ?_) | (refine AL.noU rfl ⟨_, rfl, rfl⟩ rfl ?_) | (refine AL.rpy rfl rfl rfl (rp_not rfl rfl) ?_))
  (first | (refine AL.noV rfl rfl rfl rfl ?_) | (refine AL.noU rfl ⟨_, rfl, rfl⟩ rfl ?_) | (refine AL.rpy rfl rfl rfl (rp_pick rfl rfl rfl) ?_))
  refine AL.rp rfl rfl (rp_pick rfl rfl rfl) ?_
  refine AL.rp rfl rfl (rp_move rfl rfl) ?_
  (first | (refine AL.noV rfl rfl rfl rfl ?_) | (refine AL.noU rfl ⟨_, rfl, rfl⟩ rfl ?_) | (refine AL.rpy rfl rfl rfl (rp_move rfl rfl) ?_))
  (first | (refine AL.noV rfl rfl rfl rfl ?_) | (refine AL.noU rfl ⟨_, rfl, rfl⟩ rfl ?_) | (refine AL.rpy rfl rfl rfl (rp_move rfl rfl) ?_))
  (first | (refine AL.noV rfl rfl rfl rfl ?_) | (refine AL.noU rfl ⟨_, rfl, rfl⟩ rfl ?_) | (refine AL.rpy rfl rfl rfl (rp_field_ref Tryd.underlying60 rfl rfl rfl inf3 (by decide) rfl) ?_) | (refine AL.rpy rfl rfl rfl (rp_field_ad Tryd.underlying60 rfl rfl rfl inf3 (by decide) rfl) ?_))
  (first | (refine AL.noV rfl rfl rfl rfl ?_) | (refine AL.noU rfl ⟨_, rfl, rfl⟩ rfl ?_) | (refine AL.rdy rfl rfl rfl (rd_load_ref Tryd.underlying3 rfl rfl rfl rfl rfl rfl) ?_) | (refine AL.rdy rfl rfl rfl (rd_load_ad Tryd.underlying3 rfl rfl rfl rfl) ?_) | (refine AL.rdy rfl rfl rfl (rd_load_map Tryd.underlying3 rfl rfl rfl rfl rfl rfl (by assumption)) ?_) | (refine AL.rdy rfl rfl rfl (rd_load_flat Tryd.underlying3 rfl rfl rfl rfl rfl rfl (fun _ => rfl) (by assumption) rfl) ?_))
  (first | (refine AL.no rfl rfl rfl rfl ?_) | (refine AL.noU rfl ⟨_, rfl, rfl⟩ rfl ?_) | (refine AL.cally (post := ?pc144) rfl rfl (sm_call (args := [_, _, _]) ?hc144 ⟨Tryd.func47, rfl, rfl, rfl, rfl⟩ rfl rfl rfl rfl) ?_; (case hc144 => (first | (refine Fn.decT (am_In _ _ _) ?_; omega) | (refine Fn.decF (am_In _ _ _) ?_; omega) | exact am_In _ _ _)); rintro _ rfl -; try dsimp only))
  (first | (refine AL.noV rfl rfl rfl rfl ?_) | (refine AL.noU rfl ⟨_, rfl, rfl⟩ rfl ?_) | (refine AL.rpy rfl rfl rfl (rp_not rfl rfl) ?_))
  (first | (refine AL.noV rfl rfl rfl rfl ?_) | (refine AL.noU rfl ⟨_, rfl, rfl⟩ rfl ?_) | (refine AL.rpy rfl rfl rfl (rp_pick rfl rfl rfl) ?_))
  refine AL.rp rfl rfl (rp_pick rfl rfl rfl) ?_
  refine AL.nil ?_
  try simp only [thenS, S.put, S.newObj, setL, V.cs, List.length_cons, List.length_nil, List.take_succ_cons, List.take_zero, List.drop_succ_cons, List.drop_zero, List.drop_nil, List.nil_append, List.cons_append, List.append_nil, Nat.zero_add, Nat.reduceAdd, List.map_cons, List.map_nil, List.set_cons_zero, List.set_cons_succ]
  refine AW.condF rfl ?_
  refine AW.skip ?_
  try simp only [thenS]
  refine AW.seq ?_
  refine AW.seq ?_
  refine AW.region ?_
  refine AL.rp rfl rfl (rp_move rfl rfl) ?_
  refine AL.rp rfl rfl (rp_move rfl rfl) ?_
  (first | (refine AL.noV rfl rfl rfl rfl ?_) | (refine AL.noU rfl ⟨_, rfl, rfl⟩ rfl ?_) | (refine AL.rpy rfl rfl rfl (rp_field_ref Tryd.underlying60 rfl rfl rfl inf9 (by decide) rfl) ?_) | (refine AL.rpy rfl rfl rfl (rp_field_ad Tryd.underlying60 rfl rfl rfl inf9 (by decide) rfl) ?_))
  (first | (refine AL.noV rfl rfl rfl rfl ?_) | (refine AL.noU rfl ⟨_, rfl, rfl⟩ rfl ?_) | (refine AL.rdy rfl rfl rfl (rd_load_ref Tryd.underlying9 rfl rfl rfl rfl rfl rfl) ?_) | (refine AL.rdy rfl rfl rfl (rd_load_ad Tryd.underlying9 rfl rfl rfl rfl) ?_) | (refine AL.rdy rfl rfl rfl (rd_load_map Tryd.underlying9 rfl rfl rfl rfl rfl rfl (by assumption)) ?_) | (refine AL.rdy rfl rfl rfl (rd_load_flat Tryd.underlying9 rfl rfl rfl rfl rfl rfl (fun _ => rfl) (by assumption) rfl) ?_))
  (first | (refine AL.no rfl rfl rfl rfl ?_) | (refine AL.noU rfl ⟨_, rfl, rfl⟩ rfl ?_) | (refine AL.cally (post := ?pc145) rfl rfl (sm_call (args := [_]) ?hc145 ⟨Tryd.func48, rfl, rfl, rfl, rfl⟩ rfl rfl rfl rfl) ?_; (case hc145 => (first | assumption | exact am_NameMay _)); rintro _ rfl -; try dsimp only))
  (first | (refine AL.noV rfl rfl rfl rfl ?_) | (refine AL.noU rfl ⟨_, rfl, rfl⟩ rfl ?_) | (refine AL.rpy rfl rfl rfl (rp_not rfl rfl) ?_))
  refine AL.rp rfl rfl (rp_pick rfl rfl rfl) ?_
  refine AL.nil ?_
  try simp only [thenS, S.put, S.newObj, setL, V.cs, List.length_cons, List.length_nil, List.take_succ_cons, List.take_zero, List.drop_succ_cons, List.drop_zero, List.drop_nil, List.nil_append, List.cons_append, List.append_nil, Nat.zero_add, Nat.reduceAdd, List.map_cons, List.map_nil, List.set_cons_zero, List.set_cons_succ]
  refine AW.condF rfl ?_
  refine AW.skip ?_
  try simp only [thenS]
  refine AW.seq ?_
  refine AW.seq ?_
  refine AW.region ?_
  refine AL.rp rfl rfl (rp_move rfl rfl) ?_
  refine AL.rp rfl rfl (rp_not rfl rfl) ?_
  refine AL.rp rfl rfl (rp_move rfl rfl) ?_
  (first | (refine AL.noV rfl rfl rfl rfl ?_) | (refine AL.noU rfl ⟨_, rfl, rfl⟩ rfl ?_) | (refine AL.rpy rfl rfl rfl (rp_field_ref Tryd.underlying60 rfl rfl rfl inf3 (by decide) rfl) ?_) | (refine AL.rpy rfl rfl rfl (rp_field_ad Tryd.underlying60 rfl rfl rfl inf3 (by decide) rfl) ?_))
  (first | (refine AL.noV rfl rfl rfl rfl ?_) | (refine AL.noU rfl ⟨_, rfl, rfl⟩ rfl ?_) | (refine AL.rdy rfl rfl rfl (rd_load_ref Tryd.underlying3 rfl rfl rfl rfl rfl rfl) ?_) | (refine AL.rdy rfl rfl rfl (rd_load_ad Tryd.underlying3 rfl rfl rfl rfl) ?_) | (refine AL.rdy rfl rfl rfl (rd_load_map Tryd.underlying3 rfl rfl rfl rfl rfl rfl (by assumption)) ?_) | (refine AL.rdy rfl rfl rfl (rd_load_flat Tryd.underlying3 rfl rfl rfl rfl rfl rfl (fun _ => rfl) (by assumption) rfl) ?_))
  (first | (refine AL.noV rfl rfl rfl rfl ?_) | (refine AL.noU rfl ⟨_, rfl, rfl⟩ rfl ?_) | (refine AL.rpy rfl rfl rfl (rp_neqT rfl rfl rfl (by first | assumption | omega | (dsimp only; omega))) ?_) | (refine AL.rpy rfl rfl rfl (rp_neqF rfl rfl rfl (by first | assumption | omega | (dsimp only; omega))) ?_) | (refine AL.rpy rfl rfl rfl (rp_neq rfl rfl rfl) ?_))
  refine AL.rp rfl rfl (rp_pick rfl rfl rfl) ?_
  refine AL.rp rfl rfl (rp_move rfl rfl) ?_
  (first | (refine AL.noV rfl rfl rfl rfl ?_) | (refine AL.noU rfl ⟨_, rfl, rfl⟩ rfl ?_) | (refine AL.rpy rfl rfl rfl (rp_move rfl rfl) ?_))
  (first | (refine AL.noV rfl rfl rfl rfl ?_) | (refine AL.noU rfl ⟨_, rfl, rfl⟩ rfl ?_) | (refine AL.rpy rfl rfl rfl (rp_not rfl rfl) ?_))
  (first | (refine AL.noV rfl rfl rfl rfl ?_) | (refine AL.noU rfl ⟨_, rfl, rfl⟩ rfl ?_) | (refine AL.rpy rfl rfl rfl (rp_move rfl rfl) ?_))
  (first | (refine AL.noV rfl rfl rfl rfl ?_) | (refine AL.noU rfl ⟨_, rfl, rfl⟩ rfl ?_) | (refine AL.rpy rfl rfl rfl (rp_field_ref Tryd.underlying60 rfl rfl rfl inf3 (by decide) rfl) ?_) | (refine AL.rpy rfl rfl rfl (rp_field_ad Tryd.underlying60 rfl rfl rfl inf3 (by decide) rfl) ?_))
  (first | (refine AL.noV rfl rfl rfl rfl ?_) | (refine AL.noU rfl ⟨_, rfl, rfl⟩ rfl ?_) | (refine AL.rdy rfl rfl rfl (rd_load_ref Tryd.underlying3 rfl rfl rfl rfl rfl rfl) ?_) | (refine AL.rdy rfl rfl rfl (rd_load_ad Tryd.underlying3 rfl rfl rfl rfl) ?_) | (refine AL.rdy rfl rfl rfl (rd_load_map Tryd.underlying3 rfl rfl rfl rfl rfl rfl (by assumption)) ?_) | (refine AL.rdy rfl rfl rfl (rd_load_flat Tryd.underlying3 rfl rfl rfl rfl rfl rfl (fun _ => rfl) (by assumption) rfl) ?_))
  (first | (refine AL.noV rfl rfl rfl rfl ?_) | (refine AL.noU rfl ⟨_, rfl, rfl⟩ rfl ?_) | (refine AL.rpy rfl rfl rfl (rp_neqT rfl rfl rfl (by first | assumption | omega | (dsimp only; omega))) ?_) | (refine AL.rpy rfl rfl rfl (rp_neqF rfl rfl rfl (by first | assumption | omega | (dsimp only; omega))) ?_) | (refine AL.rpy rfl rfl rfl (rp_neq rfl rfl rfl) ?_))
  (first | (refine AL.noV rfl rfl rfl rfl ?_) | (refine AL.noU rfl ⟨_, rfl, rfl⟩ rfl ?_) | (refine AL.rpy rfl rfl rfl (rp_pick rfl rfl rfl) ?_))
  refine AL.rp rfl rfl (rp_pick rfl rfl rfl) ?_
  refine AL.rp rfl rfl (rp_move rfl rfl) ?_
  (first | (refine AL.noV rfl rfl rfl rfl ?_) | (refine AL.noU rfl ⟨_, rfl, rfl⟩ rfl ?_) | (refine AL.rpy rfl rfl rfl (rp_move rfl rfl) ?_))
  (first | (refine AL.noV rfl rfl rfl rfl ?_) | (refine AL.noU rfl ⟨_, rfl, rfl⟩ rfl ?_) | (refine AL.rpy rfl rfl rfl (rp_not rfl rfl) ?_))
  (first | (refine AL.noV rfl rfl rfl rfl ?_) | (refine AL.noU rfl ⟨_, rfl, rfl⟩ rfl ?_) | (refine AL.rpy rfl rfl rfl (rp_move rfl rfl) ?_))
  (first | (refine AL.noV rfl rfl rfl rfl ?_) | (refine AL.noU rfl ⟨_, rfl, rfl⟩ rfl ?_) | (refine AL.rpy rfl rfl rfl (rp_field_ref Tryd.underlying60 rfl rfl rfl inf3 (by decide) rfl) ?_) | (refine AL.rpy rfl rfl rfl (rp_field_ad Tryd.underlying60 rfl rfl rfl inf3 (by decide) rfl) ?_))
  (first | (refine AL.noV rfl rfl rfl rfl ?_) | (refine AL.noU rfl ⟨_, rfl, rfl⟩ rfl ?_) | (refine AL.rdy rfl rfl rfl (rd_load_ref Tryd.underlying3 rfl rfl rfl rfl rfl rfl) ?_) | (refine AL.rdy rfl rfl rfl (rd_load_ad Tryd.underlying3 rfl rfl rfl rfl) ?_) | (refine AL.rdy rfl rfl rfl (rd_load_map Tryd.underlying3 rfl rfl rfl rfl rfl rfl (by assumption)) ?_) | (refine AL.rdy rfl rfl rfl (rd_load_flat Tryd.underlying3 rfl rfl rfl rfl rfl rfl (fun _ => rfl) (by assumption) rfl) ?_))
  (first | (refine AL.noV rfl rfl rfl rfl ?_) | (refine AL.noU rfl ⟨_, rfl, rfl⟩ rfl ?_) | (refine AL.rpy rfl rfl rfl (rp_neqT rfl rfl rfl (by first | assumption | omega | (dsimp only; omega))) ?_) | (refine AL.rpy rfl rfl rfl (rp_neqF rfl rfl rfl (by first | assumption | omega | (dsimp only; omega))) ?_) | (refine AL.rpy rfl rfl rfl (rp_neq rfl rfl rfl) ?_))
  (first | (refine AL.noV rfl rfl rfl rfl ?_) | (refine AL.noU rfl ⟨_, rfl, rfl⟩ rfl ?_) | (refine AL.rpy rfl rfl rfl (rp_pick rfl rfl rfl) ?_))
  refine AL.rp rfl rfl (rp_pick rfl rfl rfl) ?_
  refine AL.rp rfl rfl (rp_move rfl rfl) ?_
  (first | (refine AL.noV rfl rfl rfl rfl ?_) | (refine AL.noU rfl ⟨_, rfl, rfl⟩ rfl ?_) | (refine AL.rpy rfl rfl rfl (rp_move rfl rfl) ?_))
  (first | (refine AL.noV rfl rfl rfl rfl ?_) | (refine AL.noU rfl ⟨_, rfl, rfl⟩ rfl ?_) | (refine AL.rpy rfl rfl rfl (rp_not rfl rfl) ?_))
  (first | (refine AL.noV rfl rfl rfl rfl ?_) | (refine AL.noU rfl ⟨_, rfl, rfl⟩ rfl ?_) | (refine AL.rpy rfl rfl rfl (rp_move rfl rfl) ?_))
  (first | (refine AL.noV rfl rfl rfl rfl ?_) | (refine AL.noU rfl ⟨_, rfl, rfl⟩ rfl ?_) | (refine AL.rpy rfl rfl rfl (rp_field_ref Tryd.underlying60 rfl rfl rfl inf9 (by decide) rfl) ?_) | (refine AL.rpy rfl rfl rfl (rp_field_ad Tryd.underlying60 rfl rfl rfl inf9 (by decide) rfl) ?_))
  (first | (refine AL.noV rfl rfl rfl rfl ?_) | (refine AL.noU rfl ⟨_, rfl, rfl⟩ rfl ?_) | (refine AL.rdy rfl rfl rfl (rd_load_ref Tryd.underlying9 rfl rfl rfl rfl rfl rfl) ?_) | (refine AL.rdy rfl rfl rfl (rd_load_ad Tryd.underlying9 rfl rfl rfl rfl) ?_) | (refine AL.rdy rfl rfl rfl (rd_load_map Tryd.underlying9 rfl rfl rfl rfl rfl rfl (by assumption)) ?_) | (refine AL.rdy rfl rfl rfl (rd_load_flat Tryd.underlying9 rfl rfl rfl rfl rfl rfl (fun _ => rfl) (by assumption) rfl) ?_))
  (first | (refine AL.noV rfl rfl rfl rfl ?_) | (refine AL.noU rfl ⟨_, rfl, rfl⟩ rfl ?_) | (refine AL.rpy rfl rfl rfl (rp_neqsF rfl rfl rfl (by assumption)) ?_) | (refine AL.rpy rfl rfl rfl (rp_neqsT rfl rfl rfl (by assumption)) ?_) | (refine AL.rpy rfl rfl rfl (rp_neqs rfl rfl rfl) ?_))
  (first | (refine AL.noV rfl rfl rfl rfl ?_) | (refine AL.noU rfl ⟨_, rfl, rfl⟩ rfl ?_) | (refine AL.rpy rfl rfl rfl (rp_pick rfl rfl rfl) ?_))
  refine AL.rp rfl rfl (rp_pick rfl rfl rfl) ?_
  refine AL.nil ?_
  try simp only [thenS, S.put]
  refine AW.condT rfl ?_
  refine AW.seq ?_
  refine AW.region ?_
  refine AL.rp rfl rfl (rp_assign rfl rfl) ?_
  refine AL.rp rfl rfl (rp_assign rfl rfl) ?_
  refine AL.nil ?_
  try simp only [thenS, S.put]
  refine AW.ret ?_
  exact ⟨[_, _], ⟨rfl, rfl, trivial⟩, rfl, by simp [tupOf, V.pure, V.has, V.hasL]⟩
 have hE' : stE ⟨k, xt, xa, xb, xn⟩ = 0 := stE_ok (k := k) (p := 3) rfl h1 h2 hp (by simp only [badR, hasT, hasA, hasB, rgOk]; simp; omega) (by simp [badN, hasN, hn]) (by simp [badF, hasT, hasA, hasB, hasN, zt, zb])
 rw [hE'] at hE
 subst hE
 have hS2 : stS ⟨k, xt, xa, xb, xn⟩ = lnK k ⟨k, xt, xa, xb, xn⟩ := by unfold stS; rw [hE', if_pos rfl, hkt]
 rw [hS2] at hS
 have htx : (((wdK k ++ (⟨#[]⟩ : ByteArray) ++ ltR xa ++ (⟨#[]⟩ : ByteArray)) ++ ⟨#[32]⟩) ++ xn) ++ ⟨#[10]⟩ = S1 := by
  rw [← hS]
  simp [lnK, hp, hasT, hasA, hasB, hasN, ap_em, ByteArray.append_assoc]
 have hrt := am_registerF xt
 have hra := am_registerT xa (by omega) (by omega)
 have hla := ltR_size xa
 have hrb := am_registerF xb
 refine Fn.intro (n := 111) ⟨Tryd.func28, rfl, rfl, rfl, rfl⟩ (by simp [V.pure, V.has, V.hasL]) (by simp) fun w0 out => ?_
 refine AW.seq ?_
 refine AW.region ?_
 refine AL.sm rfl (sm_box 1 rfl rfl rfl (by first | rfl | simp [S.clean, S.put, S.newObj, S.forget, V.has, V.hasL, junkIf, setL, V.cs, hasL_i, hasL_d, hasL_b, hasL_s, hasL_n, hasL_rep, hasL_flat, hasL_append, -List.map_set]) rfl) ?_
 refine AL.rp rfl rfl (rp_assign rfl rfl) ?_
 refine AL.rp rfl rfl (rp_assign rfl rfl) ?_
 refine AL.nil ?_
 try simp only [thenS, S.put, S.newObj, setL, V.cs, List.length_cons, List.length_nil, List.take_succ_cons, List.take_zero, List.drop_succ_cons, List.drop_zero, List.drop_nil, List.nil_append, List.cons_append, List.append_nil, Nat.zero_add, Nat.reduceAdd, List.map_cons, List.map_nil, List.set_cons_zero, List.set_cons_succ, enum]
 refine AW.seq ?_
 refine AW.region ?_
 (first | (refine AL.rp rfl rfl (rp_field_ref Tryd.underlying60 rfl rfl rfl inf3 (by decide) rfl) ?_) | (refine AL.rp rfl rfl (rp_field_ad Tryd.underlying60 rfl rfl rfl inf3 (by decide) rfl) ?_))
 (first | (refine AL.rd rfl rfl (rd_load_ref Tryd.underlying3 rfl rfl rfl rfl rfl rfl) ?_) | (refine AL.rd rfl rfl (rd_load_ad Tryd.underlying3 rfl rfl rfl rfl) ?_) | (refine AL.rd rfl rfl (rd_load_map Tryd.underlying3 rfl rfl rfl rfl rfl rfl (by assumption)) ?_) | (refine AL.rd rfl rfl (rd_load_flat Tryd.underlying3 rfl rfl rfl rfl rfl rfl (fun _ => rfl) (by assumption) rfl) ?_))
 refine AL.call (post := ?pc146) rfl (sm_call (args := [_]) ?hc146 ⟨Tryd.func52, rfl, rfl, rfl, rfl⟩ rfl rfl rfl rfl) ?_
 case hc146 => exact hsw
 rintro _ rfl -
 try dsimp only
 refine AL.rp rfl rfl (rp_move rfl rfl) ?_
 refine AL.rp rfl rfl (rp_extract rfl rfl rfl) ?_
 refine AL.rp rfl rfl (rp_extract rfl rfl rfl) ?_
 refine AL.rp rfl rfl (rp_extract rfl rfl rfl) ?_
 refine AL.rp rfl rfl (rp_extract rfl rfl rfl) ?_
 refine AL.rp rfl rfl (rp_extract rfl rfl rfl) ?_
 refine AL.rp rfl rfl (rp_assign rfl rfl) ?_
 refine AL.rp rfl rfl (rp_assign rfl rfl) ?_
 refine AL.rp rfl rfl (rp_assign rfl rfl) ?_
 refine AL.rp rfl rfl (rp_assign rfl rfl) ?_
 refine AL.rp rfl rfl (rp_assign rfl rfl) ?_
 refine AL.nil ?_
 try simp only [thenS, S.put, S.newObj, setL, V.cs, List.length_cons, List.length_nil, List.take_succ_cons, List.take_zero, List.drop_succ_cons, List.drop_zero, List.drop_nil, List.nil_append, List.cons_append, List.append_nil, Nat.zero_add, Nat.reduceAdd, List.map_cons, List.map_nil, List.set_cons_zero, List.set_cons_succ]
 refine AW.seq ?_
 refine AW.seq ?_
 refine AW.region ?_
 refine AL.rp rfl rfl (rp_move rfl rfl) ?_
 (first | (refine AL.rp rfl rfl (rp_eqlsT rfl rfl rfl (by assumption)) ?_) | (refine AL.rp rfl rfl (rp_eqlsF rfl rfl rfl (by assumption)) ?_) | (refine AL.rp rfl rfl (rp_eqls rfl rfl rfl) ?_))
 refine AL.nil ?_
 try simp only [thenS, S.put]
 refine AW.condF rfl ?_
 refine AW.skip ?_
 try simp only [thenS]
 refine AW.seq ?_
 refine AW.seq ?_
 refine AW.region ?_
 refine AL.rp rfl rfl (rp_move rfl rfl) ?_
 refine AL.rp rfl rfl (rp_move rfl rfl) ?_
 (first | (refine AL.noV rfl rfl rfl rfl ?_) | (refine AL.noU rfl ⟨_, rfl, rfl⟩ rfl ?_) | (refine AL.rpy rfl rfl rfl (rp_field_ref Tryd.underlying60 rfl rfl rfl inf3 (by decide) rfl) ?_) | (refine AL.rpy rfl rfl rfl (rp_field_ad Tryd.underlying60 rfl rfl rfl inf3 (by decide) rfl) ?_))
 (first | (refine AL.noV rfl rfl rfl rfl ?_) | (refine AL.noU rfl ⟨_, rfl, rfl⟩ rfl ?_) | (refine AL.rdy rfl rfl rfl (rd_load_ref Tryd.underlying3 rfl rfl rfl rfl rfl rfl) ?_) | (refine AL.rdy rfl rfl rfl (rd_load_ad Tryd.underlying3 rfl rfl rfl rfl) ?_) | (refine AL.rdy rfl rfl rfl (rd_load_map Tryd.underlying3 rfl rfl rfl rfl rfl rfl (by assumption)) ?_) | (refine AL.rdy rfl rfl rfl (rd_load_flat Tryd.underlying3 rfl rfl rfl rfl rfl rfl (fun _ => rfl) (by assumption) rfl) ?_))
 (first | (refine AL.no rfl rfl rfl rfl ?_) | (refine AL.noU rfl ⟨_, rfl, rfl⟩ rfl ?_) | (refine AL.cally (post := ?pc147) rfl rfl (sm_call (args := [_, _, _]) ?hc147 ⟨Tryd.func47, rfl, rfl, rfl, rfl⟩ rfl rfl rfl rfl) ?_; (case hc147 => (first | (refine Fn.decT (am_In _ _ _) ?_; omega) | (refine Fn.decF (am_In _ _ _) ?_; omega) | exact am_In _ _ _)); rintro _ rfl -; try dsimp only))
 (first | (refine AL.noV rfl rfl rfl rfl ?_) | (refine AL.noU rfl ⟨_, rfl, rfl⟩ rfl ?_) | (refine AL.rpy rfl rfl rfl (rp_not rfl rfl) ?_))
 refine AL.rp rfl rfl (rp_pick rfl rfl rfl) ?_
 refine AL.rp rfl rfl (rp_move rfl rfl) ?_
 (first | (refine AL.noV rfl rfl rfl rfl ?_) | (refine AL.noU rfl ⟨_, rfl, rfl⟩ rfl ?_) | (refine AL.rpy rfl rfl rfl (rp_move rfl rfl) ?_))
 (first | (refine AL.noV rfl rfl rfl rfl ?_) | (refine AL.noU rfl ⟨_, rfl, rfl⟩ rfl ?_) | (refine AL.rpy rfl rfl rfl (rp_move rfl rfl) ?_))
 (first | (refine AL.noV rfl rfl rfl rfl ?_) | (refine AL.noU rfl ⟨_, rfl, rfl⟩ rfl ?_) | (refine AL.rpy rfl rfl rfl (rp_field_ref Tryd.underlying60 rfl rfl rfl inf3 (by decide) rfl) ?_) | (refine AL.rpy rfl rfl rfl (rp_field_ad Tryd.underlying60 rfl rfl rfl inf3 (by decide) rfl) ?_))
 (first | (refine AL.noV rfl rfl rfl rfl ?_) | (refine AL.noU rfl ⟨_, rfl, rfl⟩ rfl ?_) | (refine AL.rdy rfl rfl rfl (rd_load_ref Tryd.underlying3 rfl rfl rfl rfl rfl rfl) ?_) | (refine AL.rdy rfl rfl rfl (rd_load_ad Tryd.underlying3 rfl rfl rfl rfl) ?_) | (refine AL.rdy rfl rfl rfl (rd_load_map Tryd.underlying3 rfl rfl rfl rfl rfl rfl (by assumption)) ?_) | (refine AL.rdy rfl rfl rfl (rd_load_flat Tryd.underlying3 rfl rfl rfl rfl rfl rfl (fun _ => rfl) (by assumption) rfl) ?_))
 (first | (refine AL.no rfl rfl rfl rfl ?_) | (refine AL.noU rfl ⟨_, rfl, rfl⟩ rfl ?_) | (refine AL.cally (post := ?pc148) rfl rfl (sm_call (args := [_, _, _]) ?hc148 ⟨Tryd.func47, rfl, rfl, rfl, rfl⟩ rfl rfl rfl rfl) ?_; (case hc148 => (first | (refine Fn.decT (am_In _ _ _) ?_; omega) | (refine Fn.decF (am_In _ _ _) ?_; omega) | exact am_In _ _ _)); rintro _ rfl -; try dsimp only))
 (first | (refine AL.noV rfl rfl rfl rfl ?_) | (refine AL.noU rfl ⟨_, rfl, rfl⟩ rfl ?_) | (refine AL.rpy rfl rfl rfl (rp_not rfl rfl) ?_))
 (first | (refine AL.noV rfl rfl rfl rfl ?_) | (refine AL.noU rfl ⟨_, rfl, rfl⟩ rfl ?_) | (refine AL.rpy rfl rfl rfl (rp_pick rfl rfl rfl) ?_))
 refine AL.rp rfl rfl (rp_pick rfl rfl rfl) ?_
 refine AL.rp rfl rfl (rp_move rfl rfl) ?_
 (first | (refine AL.noV rfl rfl rfl rfl ?_) | (refine AL.noU rfl ⟨_, rfl, rfl⟩ rfl ?_) | (refine AL.rpy rfl rfl rfl (rp_move rfl rfl) ?_))
 (first | (refine AL.noV rfl rfl rfl rfl ?_) | (refine AL.noU rfl ⟨_, rfl, rfl⟩ rfl ?_) | (refine AL.rpy rfl rfl rfl (rp_move rfl rfl) ?_))
 (first | (refine AL.noV rfl rfl rfl rfl ?_) | (refine AL.noU rfl ⟨_, rfl, rfl⟩ rfl ?_) | (refine AL.rpy rfl rfl rfl (rp_field_ref Tryd.underlying60 rfl rfl rfl inf3 (by decide) rfl) ?_) | (refine AL.rpy rfl rfl rfl (rp_field_ad Tryd.underlying60 rfl rfl rfl inf3 (by decide) rfl) ?_))
 (first | (refine AL.noV rfl rfl rfl rfl ?_) | (refine AL.noU rfl ⟨_, rfl, rfl⟩ rfl ?_) | (refine AL.rdy rfl rfl rfl (rd_load_ref Tryd.underlying3 rfl rfl rfl rfl rfl rfl) ?_) | (refine AL.rdy rfl rfl rfl (rd_load_ad Tryd.underlying3 rfl rfl rfl rfl) ?_) | (refine AL.rdy rfl rfl rfl (rd_load_map Tryd.underlying3 rfl rfl rfl rfl rfl rfl (by assumption)) ?_) | (refine AL.rdy rfl rfl rfl (rd_load_flat Tryd.underlying3 rfl rfl rfl rfl rfl rfl (fun _ => rfl) (by assumption) rfl) ?_))
 (first | (refine AL.no rfl rfl rfl rfl ?_) | (refine AL.noU rfl ⟨_, rfl, rfl⟩ rfl ?_) | (refine AL.cally (post := ?pc149) rfl rfl (sm_call (args := [_, _, _]) ?hc149 ⟨Tryd.func47, rfl, rfl, rfl, rfl⟩ rfl rfl rfl rfl) ?_; (case hc149 => (first | (refine Fn.decT (am_In _ _ _) ?_; omega) | (refine Fn.decF (am_In _ _ _) ?_; omega) | exact am_In _ _ _)); rintro _ rfl -; try dsimp only))
 (first | (refine AL.noV rfl rfl rfl rfl ?_) | (refine AL.noU rfl ⟨_, rfl, rfl⟩ rfl ?_) | (refine AL.rpy rfl rfl rfl (rp_not rfl rfl) ?_))
 (first | (refine AL.noV rfl rfl rfl rfl ?_) | (refine AL.noU rfl ⟨_, rfl, rfl⟩ rfl ?_) | (refine AL.rpy rfl rfl rfl (rp_pick rfl rfl rfl) ?_))
 refine AL.rp rfl rfl (rp_pick rfl rfl rfl) ?_
 refine AL.nil ?_
 try simp only [thenS, S.put, S.newObj, setL, V.cs, List.length_cons, List.length_nil, List.take_succ_cons, List.take_zero, List.drop_succ_cons, List.drop_zero, List.drop_nil, List.nil_append, List.cons_append, List.append_nil, Nat.zero_add, Nat.reduceAdd, List.map_cons, List.map_nil, List.set_cons_zero, List.set_cons_succ]
 refine AW.condF rfl ?_
 refine AW.skip ?_
 try simp only [thenS]
 refine AW.seq ?_
 refine AW.seq ?_
 refine AW.region ?_
 refine AL.rp rfl rfl (rp_move rfl rfl) ?_
 refine AL.rp rfl rfl (rp_move rfl rfl) ?_
 (first | (refine AL.noV rfl rfl rfl rfl ?_) | (refine AL.noU rfl ⟨_, rfl, rfl⟩ rfl ?_) | (refine AL.rpy rfl rfl rfl (rp_field_ref Tryd.underlying60 rfl rfl rfl inf9 (by decide) rfl) ?_) | (refine AL.rpy rfl rfl rfl (rp_field_ad Tryd.underlying60 rfl rfl rfl inf9 (by decide) rfl) ?_))
 (first | (refine AL.noV rfl rfl rfl rfl ?_) | (refine AL.noU rfl ⟨_, rfl, rfl⟩ rfl ?_) | (refine AL.rdy rfl rfl rfl (rd_load_ref Tryd.underlying9 rfl rfl rfl rfl rfl rfl) ?_) | (refine AL.rdy rfl rfl rfl (rd_load_ad Tryd.underlying9 rfl rfl rfl rfl) ?_) | (refine AL.rdy rfl rfl rfl (rd_load_map Tryd.underlying9 rfl rfl rfl rfl rfl rfl (by assumption)) ?_) | (refine AL.rdy rfl rfl rfl (rd_load_flat Tryd.underlying9 rfl rfl rfl rfl rfl rfl (fun _ => rfl) (by assumption) rfl) ?_))
 (first | (refine AL.no rfl rfl rfl rfl ?_) | (refine AL.noU rfl ⟨_, rfl, rfl⟩ rfl ?_) | (refine AL.cally (post := ?pc150) rfl rfl (sm_call (args := [_]) ?hc150 ⟨Tryd.func48, rfl, rfl, rfl, rfl⟩ rfl rfl rfl rfl) ?_; (case hc150 => (first | assumption | exact am_NameMay _)); rintro _ rfl -; try dsimp only))
 (first | (refine AL.noV rfl rfl rfl rfl ?_) | (refine AL.noU rfl ⟨_, rfl, rfl⟩ rfl ?_) | (refine AL.rpy rfl rfl rfl (rp_not rfl rfl) ?_))
 refine AL.rp rfl rfl (rp_pick rfl rfl rfl) ?_
 refine AL.nil ?_
 try simp only [thenS, S.put, S.newObj, setL, V.cs, List.length_cons, List.length_nil, List.take_succ_cons, List.take_zero, List.drop_succ_cons, List.drop_zero, List.drop_nil, List.nil_append, List.cons_append, List.append_nil, Nat.zero_add, Nat.reduceAdd, List.map_cons, List.map_nil, List.set_cons_zero, List.set_cons_succ]
 refine AW.condF rfl ?_
 refine AW.skip ?_
 try simp only [thenS]
 refine AW.seq ?_
 refine AW.seq ?_
 refine AW.region ?_
 refine AL.rp rfl rfl (rp_move rfl rfl) ?_
 refine AL.rp rfl rfl (rp_not rfl rfl) ?_
 refine AL.rp rfl rfl (rp_move rfl rfl) ?_
 (first | (refine AL.noV rfl rfl rfl rfl ?_) | (refine AL.noU rfl ⟨_, rfl, rfl⟩ rfl ?_) | (refine AL.rpy rfl rfl rfl (rp_field_ref Tryd.underlying60 rfl rfl rfl inf3 (by decide) rfl) ?_) | (refine AL.rpy rfl rfl rfl (rp_field_ad Tryd.underlying60 rfl rfl rfl inf3 (by decide) rfl) ?_))
 (first | (refine AL.noV rfl rfl rfl rfl ?_) | (refine AL.noU rfl ⟨_, rfl, rfl⟩ rfl ?_) | (refine AL.rdy rfl rfl rfl (rd_load_ref Tryd.underlying3 rfl rfl rfl rfl rfl rfl) ?_) | (refine AL.rdy rfl rfl rfl (rd_load_ad Tryd.underlying3 rfl rfl rfl rfl) ?_) | (refine AL.rdy rfl rfl rfl (rd_load_map Tryd.underlying3 rfl rfl rfl rfl rfl rfl (by assumption)) ?_) | (refine AL.rdy rfl rfl rfl (rd_load_flat Tryd.underlying3 rfl rfl rfl rfl rfl rfl (fun _ => rfl) (by assumption) rfl) ?_))
 (first | (refine AL.noV rfl rfl rfl rfl ?_) | (refine AL.noU rfl ⟨_, rfl, rfl⟩ rfl ?_) | (refine AL.rpy rfl rfl rfl (rp_neqT rfl rfl rfl (by first | assumption | omega | (dsimp only; omega))) ?_) | (refine AL.rpy rfl rfl rfl (rp_neqF rfl rfl rfl (by first | assumption | omega | (dsimp only; omega))) ?_) | (refine AL.rpy rfl rfl rfl (rp_neq rfl rfl rfl) ?_))
 refine AL.rp rfl rfl (rp_pick rfl rfl rfl) ?_
 refine AL.rp rfl rfl (rp_move rfl rfl) ?_
 (first | (refine AL.noV rfl rfl rfl rfl ?_) | (refine AL.noU rfl ⟨_, rfl, rfl⟩ rfl ?_) | (refine AL.rpy rfl rfl rfl (rp_move rfl rfl) ?_))
 (first | (refine AL.noV rfl rfl rfl rfl ?_) | (refine AL.noU rfl ⟨_, rfl, rfl⟩ rfl ?_) | (refine AL.rpy rfl rfl rfl (rp_not rfl rfl) ?_))
 (first | (refine AL.noV rfl rfl rfl rfl ?_) | (refine AL.noU rfl ⟨_, rfl, rfl⟩ rfl ?_) | (refine AL.rpy rfl rfl rfl (rp_move rfl rfl) ?_))
 (first | (refine AL.noV rfl rfl rfl rfl ?_) | (refine AL.noU rfl ⟨_, rfl, rfl⟩ rfl ?_) | (refine AL.rpy rfl rfl rfl (rp_field_ref Tryd.underlying60 rfl rfl rfl inf3 (by decide) rfl) ?_) | (refine AL.rpy rfl rfl rfl (rp_field_ad Tryd.underlying60 rfl rfl rfl inf3 (by decide) rfl) ?_))
 (first | (refine AL.noV rfl rfl rfl rfl ?_) | (refine AL.noU rfl ⟨_, rfl, rfl⟩ rfl ?_) | (refine AL.rdy rfl rfl rfl (rd_load_ref Tryd.underlying3 rfl rfl rfl rfl rfl rfl) ?_) | (refine AL.rdy rfl rfl rfl (rd_load_ad Tryd.underlying3 rfl rfl rfl rfl) ?_) | (refine AL.rdy rfl rfl rfl (rd_load_map Tryd.underlying3 rfl rfl rfl rfl rfl rfl (by assumption)) ?_) | (refine AL.rdy rfl rfl rfl (rd_load_flat Tryd.underlying3 rfl rfl rfl rfl rfl rfl (fun _ => rfl) (by assumption) rfl) ?_))
 (first | (refine AL.noV rfl rfl rfl rfl ?_) | (refine AL.noU rfl ⟨_, rfl, rfl⟩ rfl ?_) | (refine AL.rpy rfl rfl rfl (rp_neqT rfl rfl rfl (by first | assumption | omega | (dsimp only; omega))) ?_) | (refine AL.rpy rfl rfl rfl (rp_neqF rfl rfl rfl (by first | assumption | omega | (dsimp only; omega))) ?_) | (refine AL.rpy rfl rfl rfl (rp_neq rfl rfl rfl) ?_))
 (first | (refine AL.noV rfl rfl rfl rfl ?_) | (refine AL.noU rfl ⟨_, rfl, rfl⟩ rfl ?_) | (refine AL.rpy rfl rfl rfl (rp_pick rfl rfl rfl) ?_))
 refine AL.rp rfl rfl (rp_pick rfl rfl rfl) ?_
 refine AL.rp rfl rfl (rp_move rfl rfl) ?_
 (first | (refine AL.noV rfl rfl rfl rfl ?_) | (refine AL.noU rfl ⟨_, rfl, rfl⟩ rfl ?_) | (refine AL.rpy rfl rfl rfl (rp_move rfl rfl) ?_))
 (first | (refine AL.noV rfl rfl rfl rfl ?_) | (refine AL.noU rfl ⟨_, rfl, rfl⟩ rfl ?_) | (refine AL.rpy rfl rfl rfl (rp_not rfl rfl) ?_))
 (first | (refine AL.noV rfl rfl rfl rfl ?_) | (refine AL.noU rfl ⟨_, rfl, rfl⟩ rfl ?_) | (refine AL.rpy rfl rfl rfl (rp_move rfl rfl) ?_))
 (first | (refine AL.noV rfl rfl rfl rfl ?_) | (refine AL.noU rfl ⟨_, rfl, rfl⟩ rfl ?_) | (refine AL.rpy rfl rfl rfl (rp_field_ref Tryd.underlying60 rfl rfl rfl inf3 (by decide) rfl) ?_) | (refine AL.rpy rfl rfl rfl (rp_field_ad Tryd.underlying60 rfl rfl rfl inf3 (by decide) rfl) ?_))
 (first | (refine AL.noV rfl rfl rfl rfl ?_) | (refine AL.noU rfl ⟨_, rfl, rfl⟩ rfl ?_) | (refine AL.rdy rfl rfl rfl (rd_load_ref Tryd.underlying3 rfl rfl rfl rfl rfl rfl) ?_) | (refine AL.rdy rfl rfl rfl (rd_load_ad Tryd.underlying3 rfl rfl rfl rfl) ?_) | (refine AL.rdy rfl rfl rfl (rd_load_map Tryd.underlying3 rfl rfl rfl rfl rfl rfl (by assumption)) ?_) | (refine AL.rdy rfl rfl rfl (rd_load_flat Tryd.underlying3 rfl rfl rfl rfl rfl rfl (fun _ => rfl) (by assumption) rfl) ?_))
 (first | (refine AL.noV rfl rfl rfl rfl ?_) | (refine AL.noU rfl ⟨_, rfl, rfl⟩ rfl ?_) | (refine AL.rpy rfl rfl rfl (rp_neqT rfl rfl rfl (by first | assumption | omega | (dsimp only; omega))) ?_) | (refine AL.rpy rfl rfl rfl (rp_neqF rfl rfl rfl (by first | assumption | omega | (dsimp only; omega))) ?_) | (refine AL.rpy rfl rfl rfl (rp_neq rfl rfl rfl) ?_))
 (first | (refine AL.noV rfl rfl rfl rfl ?_) | (refine AL.noU rfl ⟨_, rfl, rfl⟩ rfl ?_) | (refine AL.rpy rfl rfl rfl (rp_pick rfl rfl rfl) ?_))
 refine AL.rp rfl rfl (rp_pick rfl rfl rfl) ?_
 refine AL.rp rfl rfl (rp_move rfl rfl) ?_
 (first | (refine AL.noV rfl rfl rfl rfl ?_) | (refine AL.noU rfl ⟨_, rfl, rfl⟩ rfl ?_) | (refine AL.rpy rfl rfl rfl (rp_move rfl rfl) ?_))
 (first | (refine AL.noV rfl rfl rfl rfl ?_) | (refine AL.noU rfl ⟨_, rfl, rfl⟩ rfl ?_) | (refine AL.rpy rfl rfl rfl (rp_not rfl rfl) ?_))
 (first | (refine AL.noV rfl rfl rfl rfl ?_) | (refine AL.noU rfl ⟨_, rfl, rfl⟩ rfl ?_) | (refine AL.rpy rfl rfl rfl (rp_move rfl rfl) ?_))
 (first | (refine AL.noV rfl rfl rfl rfl ?_) | (refine AL.noU rfl ⟨_, rfl, rfl⟩ rfl ?_) | (refine AL.rpy rfl rfl rfl (rp_field_ref Tryd.underlying60 rfl rfl rfl inf9 (by decide) rfl) ?_) | (refine AL.rpy rfl rfl rfl (rp_field_ad Tryd.underlying60 rfl rfl rfl inf9 (by decide) rfl) ?_))
 (first | (refine AL.noV rfl rfl rfl rfl ?_) | (refine AL.noU rfl ⟨_, rfl, rfl⟩ rfl ?_) | (refine AL.rdy rfl rfl rfl (rd_load_ref Tryd.underlying9 rfl rfl rfl rfl rfl rfl) ?_) | (refine AL.rdy rfl rfl rfl (rd_load_ad Tryd.underlying9 rfl rfl rfl rfl) ?_) | (refine AL.rdy rfl rfl rfl (rd_load_map Tryd.underlying9 rfl rfl rfl rfl rfl rfl (by assumption)) ?_) | (refine AL.rdy rfl rfl rfl (rd_load_flat Tryd.underlying9 rfl rfl rfl rfl rfl rfl (fun _ => rfl) (by assumption) rfl) ?_))
 (first | (refine AL.noV rfl rfl rfl rfl ?_) | (refine AL.noU rfl ⟨_, rfl, rfl⟩ rfl ?_) | (refine AL.rpy rfl rfl rfl (rp_neqsF rfl rfl rfl (by assumption)) ?_) | (refine AL.rpy rfl rfl rfl (rp_neqsT rfl rfl rfl (by assumption)) ?_) | (refine AL.rpy rfl rfl rfl (rp_neqs rfl rfl rfl) ?_))
 (first | (refine AL.noV rfl rfl rfl rfl ?_) | (refine AL.noU rfl ⟨_, rfl, rfl⟩ rfl ?_) | (refine AL.rpy rfl rfl rfl (rp_pick rfl rfl rfl) ?_))
 refine AL.rp rfl rfl (rp_pick rfl rfl rfl) ?_
 refine AL.nil ?_
 try simp only [thenS, S.put]
 refine AW.condF rfl ?_
 refine AW.skip ?_
 try simp only [thenS]
 refine AW.seq ?_
 refine AW.draw [(0, true), (1, true), (2, true), (3, true), (6, true), (7, true), (8, true), (11, true), (12, true), (13, true), (4, false), (5, true), (9, false), (10, true), (14, false), (15, false), (16, false)] (fun i => !([] : List Nat).contains i) 17 (by kernel_rfl) (by kernel_rfl) rfl (by kernel_rfl) ?_
 refine AD1.rp rfl rfl rfl (fun _ _ h => h) (rp_move rfl rfl) ?_
 refine AD1.rp rfl rfl rfl (fun _ _ h => h) (rp_move rfl rfl) ?_
 (first | (refine AD1.rp rfl rfl rfl (fun _ _ h => h) (rp_field_ref Tryd.underlying60 rfl rfl rfl inf3 (by decide) rfl) ?_) | (refine AD1.rp rfl rfl rfl (fun _ _ h => h) (rp_field_ad Tryd.underlying60 rfl rfl rfl inf3 (by decide) rfl) ?_))
 (first | (refine AD1.rd rfl rfl rfl (fun _ _ h => h) (rd_load_ref Tryd.underlying3 rfl rfl rfl rfl rfl rfl) ?_) | (refine AD1.rd rfl rfl rfl (fun _ _ h => h) (rd_load_ad Tryd.underlying3 rfl rfl rfl rfl) ?_) | (refine AD1.rd rfl rfl rfl (fun _ _ h => h) (rd_load_map Tryd.underlying3 rfl rfl rfl rfl rfl rfl (by assumption)) ?_) | (refine AD1.rd rfl rfl rfl (fun _ _ h => h) (rd_load_flat Tryd.underlying3 rfl rfl rfl rfl rfl rfl (fun _ => rfl) (by assumption) rfl) ?_))
 refine AD1.rp rfl rfl rfl (fun _ _ h => h) (rp_move rfl rfl) ?_
 (first | (refine AD1.rp rfl rfl rfl (fun _ _ h => h) (rp_field_ref Tryd.underlying60 rfl rfl rfl inf3 (by decide) rfl) ?_) | (refine AD1.rp rfl rfl rfl (fun _ _ h => h) (rp_field_ad Tryd.underlying60 rfl rfl rfl inf3 (by decide) rfl) ?_))
 (first | (refine AD1.rd rfl rfl rfl (fun _ _ h => h) (rd_load_ref Tryd.underlying3 rfl rfl rfl rfl rfl rfl) ?_) | (refine AD1.rd rfl rfl rfl (fun _ _ h => h) (rd_load_ad Tryd.underlying3 rfl rfl rfl rfl) ?_) | (refine AD1.rd rfl rfl rfl (fun _ _ h => h) (rd_load_map Tryd.underlying3 rfl rfl rfl rfl rfl rfl (by assumption)) ?_) | (refine AD1.rd rfl rfl rfl (fun _ _ h => h) (rd_load_flat Tryd.underlying3 rfl rfl rfl rfl rfl rfl (fun _ => rfl) (by assumption) rfl) ?_))
 refine AD1.rp rfl rfl rfl (fun _ _ h => h) (rp_move rfl rfl) ?_
 (first | (refine AD1.rp rfl rfl rfl (fun _ _ h => h) (rp_field_ref Tryd.underlying60 rfl rfl rfl inf3 (by decide) rfl) ?_) | (refine AD1.rp rfl rfl rfl (fun _ _ h => h) (rp_field_ad Tryd.underlying60 rfl rfl rfl inf3 (by decide) rfl) ?_))
 (first | (refine AD1.rd rfl rfl rfl (fun _ _ h => h) (rd_load_ref Tryd.underlying3 rfl rfl rfl rfl rfl rfl) ?_) | (refine AD1.rd rfl rfl rfl (fun _ _ h => h) (rd_load_ad Tryd.underlying3 rfl rfl rfl rfl) ?_) | (refine AD1.rd rfl rfl rfl (fun _ _ h => h) (rd_load_map Tryd.underlying3 rfl rfl rfl rfl rfl rfl (by assumption)) ?_) | (refine AD1.rd rfl rfl rfl (fun _ _ h => h) (rd_load_flat Tryd.underlying3 rfl rfl rfl rfl rfl rfl (fun _ => rfl) (by assumption) rfl) ?_))
 refine AD1.go ?_
 refine AD2.call (post := ?pc151) rfl rfl (sm_call (args := [_, _]) ?hc151 ⟨Tryd.func54, rfl, rfl, rfl, rfl⟩ rfl rfl rfl rfl) ?_
 case hc151 => exact hrt
 rintro _ rfl -
 try dsimp only
 refine AD2.rp rfl rfl rfl (fun _ _ h => h) (rp_adds rfl rfl rfl (by first | assumption | omega | (simp only [ByteArray.size_append]; omega))) ?_
 refine AD2.call (post := ?pc152) rfl rfl (sm_call (args := [_, _]) ?hc152 ⟨Tryd.func54, rfl, rfl, rfl, rfl⟩ rfl rfl rfl rfl) ?_
 case hc152 => exact hra
 rintro _ rfl -
 try dsimp only
 refine AD2.rp rfl rfl rfl (fun _ _ h => h) (rp_adds rfl rfl rfl (by first | assumption | omega | (simp only [ByteArray.size_append]; omega))) ?_
 refine AD2.call (post := ?pc153) rfl rfl (sm_call (args := [_, _]) ?hc153 ⟨Tryd.func54, rfl, rfl, rfl, rfl⟩ rfl rfl rfl rfl) ?_
 case hc153 => exact hrb
 rintro _ rfl -
 try dsimp only
 refine AD2.rp1 rfl rfl rfl (rp_adds rfl rfl rfl (by first | assumption | omega | (simp only [ByteArray.size_append]; omega))) ?_
 refine AD2.rp1 rfl rfl rfl (rp_assign rfl rfl) ?_
 refine AD2.nil ?_
 try simp only [thenS, S.put, S.newObj, setL, V.cs, List.length_cons, List.length_nil, List.take_succ_cons, List.take_zero, List.drop_succ_cons, List.drop_zero, List.drop_nil, List.nil_append, List.cons_append, List.append_nil, Nat.zero_add, Nat.reduceAdd, List.map_cons, List.map_nil, List.set_cons_zero, List.set_cons_succ]
 refine AW.seq ?_
 refine AW.seq ?_
 refine AW.region ?_
 refine AL.rp rfl rfl (rp_move rfl rfl) ?_
 refine AL.nil ?_
 try simp only [thenS, S.put]
 refine AW.condT rfl ?_
 refine AW.region ?_
 refine AL.rp rfl rfl (rp_move rfl rfl) ?_
 refine AL.rp rfl rfl (rp_adds rfl rfl rfl (by first | assumption | omega | (simp only [ByteArray.size_append]; omega))) ?_
 (first | (refine AL.rp rfl rfl (rp_field_ref Tryd.underlying60 rfl rfl rfl inf9 (by decide) rfl) ?_) | (refine AL.rp rfl rfl (rp_field_ad Tryd.underlying60 rfl rfl rfl inf9 (by decide) rfl) ?_))
 (first | (refine AL.rd rfl rfl (rd_load_ref Tryd.underlying9 rfl rfl rfl rfl rfl rfl) ?_) | (refine AL.rd rfl rfl (rd_load_ad Tryd.underlying9 rfl rfl rfl rfl) ?_) | (refine AL.rd rfl rfl (rd_load_map Tryd.underlying9 rfl rfl rfl rfl rfl rfl (by assumption)) ?_) | (refine AL.rd rfl rfl (rd_load_flat Tryd.underlying9 rfl rfl rfl rfl rfl rfl (fun _ => rfl) (by assumption) rfl) ?_))
 refine AL.rp rfl rfl (rp_adds rfl rfl rfl (by first | assumption | omega | (simp only [ByteArray.size_append]; omega))) ?_
 refine AL.rp rfl rfl (rp_assign rfl rfl) ?_
 refine AL.nil ?_
 try simp only [thenS, S.put]
 refine AW.seq ?_
 refine AW.region ?_
 refine AL.rp rfl rfl (rp_move rfl rfl) ?_
 refine AL.rp rfl rfl (rp_adds rfl rfl rfl (by first | assumption | omega | (simp only [ByteArray.size_append]; omega))) ?_
 refine AL.rp rfl rfl (rp_assign rfl rfl) ?_
 refine AL.rp rfl rfl (rp_assign rfl rfl) ?_
 refine AL.nil ?_
 try simp only [thenS, S.put]
 refine AW.ret ?_
 exact ⟨[_, _], ⟨rfl, rfl, trivial⟩, by rw [← htx]; rfl, by simp [tupOf, V.pure, V.has, V.hasL]⟩
theorem am_StepShown (x : Stp) : Fn Tryd.prog 28 [.agg ((stpD x).map V.d)] (fun v => v = .tup [.s (stS x), .i (stE x)]) := by
 obtain ⟨xk, xt, xa, xb, xn⟩ := x
 simp only [stpD, List.map_cons, List.map_nil]
 by_cases hk : 1 ≤ xk ∧ xk ≤ 15
 ·obtain ⟨k, rfl⟩ : ∃ k : Nat, xk = k := ⟨xk.toNat, by omega⟩
  obtain ⟨p, hp⟩ : ∃ p, ptK k = p := ⟨_, rfl⟩
  have hp4 : p < 4 := hp ▸ ptK_lt k (by omega)
  match p, hp4 with
  | 0, _ => exact am_StepShown0 k xt xa xb xn (by omega) (by omega) hp _ _ rfl rfl
  | 1, _ => exact am_StepShown1 k xt xa xb xn (by omega) (by omega) hp _ _ rfl rfl
  | 2, _ => exact am_StepShown2 k xt xa xb xn (by omega) (by omega) hp _ _ rfl rfl
  | 3, _ => exact am_StepShown3 k xt xa xb xn (by omega) (by omega) hp _ _ rfl rfl
 ·have hS : stS ⟨xk, xt, xa, xb, xn⟩ = ⟨#[]⟩ := by unfold stS; rw [stE_kind hk]; rfl
  rw [stE_kind hk, hS]
  have hsw := am_StepWordF xk hk
  have hee : (⟨#[]⟩ : ByteArray) = ⟨#[]⟩ := rfl
  refine Fn.intro (n := 111) ⟨Tryd.func28, rfl, rfl, rfl, rfl⟩ (by simp [V.pure, V.has, V.hasL]) (by simp) fun w0 out => ?_
  refine AW.seq ?_
  refine AW.region ?_
  refine AL.sm rfl (sm_box 1 rfl rfl rfl (by first | rfl | simp [S.clean, S.put, S.newObj, S.forget, V.has, V.hasL, junkIf, setL, V.cs, hasL_i, hasL_d, hasL_b, hasL_s, hasL_n, hasL_rep, hasL_flat, hasL_append, -List.map_set]) rfl) ?_
  refine AL.rp rfl rfl (rp_assign rfl rfl) ?_
  refine AL.rp rfl rfl (rp_assign rfl rfl) ?_
  refine AL.nil ?_
  try simp only [thenS, S.put, S.newObj, setL, V.cs, List.length_cons, List.length_nil, List.take_succ_cons, List.take_zero, List.drop_succ_cons, List.drop_zero, List.drop_nil, List.nil_append, List.cons_append, List.append_nil, Nat.zero_add, Nat.reduceAdd, List.map_cons, List.map_nil, List.set_cons_zero, List.set_cons_succ, enum]
  refine AW.seq ?_
  refine AW.region ?_
  (first | (refine AL.rp rfl rfl (rp_field_ref Tryd.underlying60 rfl rfl rfl inf3 (by decide) rfl) ?_) | (refine AL.rp rfl rfl (rp_field_ad Tryd.underlying60 rfl rfl rfl inf3 (by decide) rfl) ?_))
  (first | (refine AL.rd rfl rfl (rd_load_ref Tryd.underlying3 rfl rfl rfl rfl rfl rfl) ?_) | (refine AL.rd rfl rfl (rd_load_ad Tryd.underlying3 rfl rfl rfl rfl) ?_) | (refine AL.rd rfl rfl (rd_load_map Tryd.underlying3 rfl rfl rfl rfl rfl rfl (by assumption)) ?_) | (refine AL.rd rfl rfl (rd_load_flat Tryd.underlying3 rfl rfl rfl rfl rfl rfl (fun _ => rfl) (by assumption) rfl) ?_))
  refine AL.call (post := ?pc154) rfl (sm_call (args := [_]) ?hc154 ⟨Tryd.func52, rfl, rfl, rfl, rfl⟩ rfl rfl rfl rfl) ?_
  case hc154 => exact hsw
  rintro _ rfl -
  try dsimp only
  refine AL.rp rfl rfl (rp_move rfl rfl) ?_
  refine AL.rp rfl rfl (rp_extract rfl rfl rfl) ?_
  refine AL.rp rfl rfl (rp_extract rfl rfl rfl) ?_
  refine AL.rp rfl rfl (rp_extract rfl rfl rfl) ?_
  refine AL.rp rfl rfl (rp_extract rfl rfl rfl) ?_
  refine AL.rp rfl rfl (rp_extract rfl rfl rfl) ?_
  refine AL.rp rfl rfl (rp_assign rfl rfl) ?_
  refine AL.rp rfl rfl (rp_assign rfl rfl) ?_
  refine AL.rp rfl rfl (rp_assign rfl rfl) ?_
  refine AL.rp rfl rfl (rp_assign rfl rfl) ?_
  refine AL.rp rfl rfl (rp_assign rfl rfl) ?_
  refine AL.nil ?_
  try simp only [thenS, S.put, S.newObj, setL, V.cs, List.length_cons, List.length_nil, List.take_succ_cons, List.take_zero, List.drop_succ_cons, List.drop_zero, List.drop_nil, List.nil_append, List.cons_append, List.append_nil, Nat.zero_add, Nat.reduceAdd, List.map_cons, List.map_nil, List.set_cons_zero, List.set_cons_succ]
  refine AW.seq ?_
  refine AW.seq ?_
  refine AW.region ?_
  refine AL.rp rfl rfl (rp_move rfl rfl) ?_
  (first | (refine AL.rp rfl rfl (rp_eqlsT rfl rfl rfl (by assumption)) ?_) | (refine AL.rp rfl rfl (rp_eqlsF rfl rfl rfl (by assumption)) ?_) | (refine AL.rp rfl rfl (rp_eqls rfl rfl rfl) ?_))
  refine AL.nil ?_
  try simp only [thenS, S.put]
  refine AW.condT rfl ?_
  refine AW.seq ?_
  refine AW.region ?_
  refine AL.rp rfl rfl (rp_assign rfl rfl) ?_
  refine AL.rp rfl rfl (rp_assign rfl rfl) ?_
  refine AL.nil ?_
  try simp only [thenS, S.put]
  refine AW.ret ?_
  exact ⟨[_, _], ⟨rfl, rfl, trivial⟩, rfl, by simp [tupOf, V.pure, V.has, V.hasL]⟩
end Go.Proofs.YtlgnjehfojogmaaDoor
