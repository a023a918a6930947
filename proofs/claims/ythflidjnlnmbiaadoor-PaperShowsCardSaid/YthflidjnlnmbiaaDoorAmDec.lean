/- The document's decimal digits. -/
import Derived.Lib.ItoaNum
import Derived.Test.YthflidjnlnmbiaaDoorAmByt
import Derived.Test.YthflidjnlnmbiaaDoorAmIZ
import Derived.Test.YthflidjnlnmbiaaDoorAmTree
-- AmB
namespace Go.Proofs.YthflidjnlnmbiaaDoor
open Go.RowKit
set_option linter.unusedSimpArgs false
set_option linter.unusedVariables false
set_option maxRecDepth 100000

def decS (n : Nat) : ByteArray := ⟨(Lib.decDigits n).toArray⟩
theorem decS_small {n : Nat} (h : n < 10) : baN [48 + n] = decS n := by
 unfold decS baN
 rw [Lib.decDigits_one h]
 rfl
theorem decS_big {n : Nat} (h : ¬ n < 10) : decS (n / 10) ++ baN [48 + n % 10] = decS n := by
 have h1 : baN [48 + n % 10] = ⟨[UInt8.ofNat (48 + n % 10)].toArray⟩ := rfl
 rw [h1]
 unfold decS
 rw [ByteArray.mk_append_mk]
 conv => rhs; rw [Lib.decDigits, dif_neg h]
theorem decS_size (n : Nat) : (decS n).size ≤ n + 1 := by
 induction n using Nat.strongRecOn with
 | _ n ih =>
  by_cases h : n < 10
  ·rw [← decS_small h]
   have : (baN [48 + n]).size = 1 := rfl
   omega
  ·have := ih (n / 10) (by omega)
   rw [← decS_big h, ByteArray.size_append]
   have : (baN [48 + n % 10]).size = 1 := rfl
   omega
theorem am_Dec : ∀ n : Nat, n ≤ 1000000001 → Fn Tryd.prog 22 [.i (n : Int)] (fun v => v = .s (decS n)) := by
 intro n
 induction n using Nat.strongRecOn with
 | _ n ih =>
  intro hb
  by_cases h : n < 10
  ·have hd := decS_small h
   refine Fn.intro (n := 20) ⟨Tryd.func22, rfl, rfl, rfl, rfl⟩ (by simp [V.pure, V.has, V.hasL]) (by simp) fun w0 out => ?_
   refine AW.seq ?_
   refine AW.region ?_
   refine AL.rp rfl rfl (rp_assign rfl rfl) ?_
   refine AL.nil ?_
   try simp only [thenS, S.put, enum, List.nil_append, List.cons_append, List.append_nil, Nat.zero_add, Nat.reduceAdd]
   refine AW.seq ?_
   refine AW.seq ?_
   refine AW.region ?_
   refine AL.rp rfl rfl (rp_move rfl rfl) ?_
   (first | (refine AL.rp rfl rfl (rp_lssT rfl rfl rfl (by first | assumption | omega | (dsimp only; omega))) ?_) | (refine AL.rp rfl rfl (rp_lssF rfl rfl rfl (by first | assumption | omega | (dsimp only; omega))) ?_) | (refine AL.rp rfl rfl (rp_lss rfl rfl rfl) ?_))
   refine AL.nil ?_
   try simp only [thenS, S.put]
   refine AW.condT rfl ?_
   refine AW.seq ?_
   refine AW.region ?_
   refine AL.rp rfl rfl (rp_move rfl rfl) ?_
   refine AL.rp rfl rfl (rp_add rfl rfl rfl (by first | omega | (dsimp only; omega))) ?_
   refine AL.rp rfl rfl (rp_conv Tryd.underlying3 (by intro e h; cases h) (by intro h; cases h) Tryd.underlying5 rfl rfl (r := ((48 + n : Nat) : Int)) (by first | (rw [wrap8]; omega) | (rw [wrap8]; dsimp only; omega) | (rw [wrap16]; omega) | (rw [wrap64 (by omega)] <;> omega) | (rw [wrapU64 (by omega)] <;> omega))) ?_
   refine AL.sm rfl (sm_slice (vs := [(0, _)]) (zs := [.d (.p (.int .u8 0))]) 8 Tryd.underlying50 inf5 rfl rfl (by decide) (by decide) (by decide) rfl rfl rfl rfl (by first | rfl | simp [S.clean, S.put, S.newObj, S.forget, V.has, V.hasL, junkIf, setL, V.cs, hasL_i, hasL_d, hasL_b, hasL_s, hasL_n, hasL_rep, hasL_flat, hasL_append, -List.map_set]) (by first | rfl | simp [S.clean, S.put, S.newObj, S.forget, V.has, V.hasL, junkIf, setL, V.cs, hasL_i, hasL_d, hasL_b, hasL_s, hasL_n, hasL_rep, hasL_flat, hasL_append, -List.map_set]) rfl) ?_
   (first | (refine AL.rd rfl rfl (rd_b2s _ Tryd.underlying50 Tryd.underlying5 Tryd.underlying9 rfl rfl) ?_) | (refine AL.rd rfl rfl (rd_b2s_own ([48 + n]) Tryd.underlying50 Tryd.underlying5 Tryd.underlying9 rfl rfl rfl rfl rfl (by first | rfl | simp)) ?_))
   refine AL.rp rfl rfl (rp_assign rfl rfl) ?_
   refine AL.nil ?_
   try simp only [thenS, S.put, S.newObj, setL, V.cs, List.length_cons, List.length_nil, List.take_succ_cons, List.take_zero, List.drop_succ_cons, List.drop_zero, List.drop_nil, List.nil_append, List.cons_append, List.append_nil, Nat.zero_add, Nat.reduceAdd, List.map_cons, List.map_nil, List.set_cons_zero, List.set_cons_succ]
   refine AW.ret ?_
   exact ⟨[_], ⟨rfl, trivial⟩, by rw [← hd]; rfl, by simp [tupOf, V.pure, V.has, V.hasL]⟩
  ·have hr := ih (n / 10) (by omega) (by omega)
   have hd := decS_big h
   have hq : ((n / 10 : Nat) : Int) = (n : Int) / 10 := by omega
   have hm : ((n % 10 : Nat) : Int) = (n : Int) % 10 := by omega
   have hs1 := decS_size (n / 10)
   have hs2 : (baN [48 + n % 10]).size = 1 := rfl
   refine Fn.intro (n := 20) ⟨Tryd.func22, rfl, rfl, rfl, rfl⟩ (by simp [V.pure, V.has, V.hasL]) (by simp) fun w0 out => ?_
   refine AW.seq ?_
   refine AW.region ?_
   refine AL.rp rfl rfl (rp_assign rfl rfl) ?_
   refine AL.nil ?_
   try simp only [thenS, S.put, enum, List.nil_append, List.cons_append, List.append_nil, Nat.zero_add, Nat.reduceAdd]
   refine AW.seq ?_
   refine AW.seq ?_
   refine AW.region ?_
   refine AL.rp rfl rfl (rp_move rfl rfl) ?_
   (first | (refine AL.rp rfl rfl (rp_lssT rfl rfl rfl (by first | assumption | omega | (dsimp only; omega))) ?_) | (refine AL.rp rfl rfl (rp_lssF rfl rfl rfl (by first | assumption | omega | (dsimp only; omega))) ?_) | (refine AL.rp rfl rfl (rp_lss rfl rfl rfl) ?_))
   refine AL.nil ?_
   try simp only [thenS, S.put]
   refine AW.condF rfl ?_
   refine AW.skip ?_
   try simp only [thenS]
   refine AW.seq ?_
   refine AW.drawT (N := ?N1) (l := #[false, false, false, false, false, false, false, false, false, false, false]) 11 (by kernel_rfl) rfl rfl ?_ ?_
   rotate_left
   refine AN.rp (i := 0) (l' := #[true, false, false, false, false, false, false, false, false, false, false]) rfl rfl rfl (fun _ _ h => h) (by kernel_rfl) rfl (rp_move rfl rfl) ?_
   refine AN.rp (i := 1) (l' := #[true, true, false, false, false, false, false, false, false, false, false]) rfl rfl rfl (fun _ _ h => h) (by kernel_rfl) rfl (rp_quoZ (((n / 10 : Nat) : Int)) rfl rfl rfl (by omega) (by omega)) ?_
   refine AN.rp (i := 3) (l' := #[true, true, false, true, false, false, false, false, false, false, false]) rfl rfl rfl (fun _ _ h => h) (by kernel_rfl) rfl (rp_move rfl rfl) ?_
   refine AN.rp (i := 4) (l' := #[true, true, false, true, true, false, false, false, false, false, false]) rfl rfl rfl (fun _ _ h => h) (by kernel_rfl) rfl (rp_remZ (((n % 10 : Nat) : Int)) rfl rfl rfl (by omega) (by omega)) ?_
   refine AN.rp (i := 5) (l' := #[true, true, false, true, true, true, false, false, false, false, false]) rfl rfl rfl (fun _ _ h => h) (by kernel_rfl) rfl (rp_add rfl rfl rfl (by first | omega | (dsimp only; omega))) ?_
   refine AN.rp (i := 6) (l' := #[true, true, false, true, true, true, true, false, false, false, false]) rfl rfl rfl (fun _ _ h => h) (by kernel_rfl) rfl (rp_conv Tryd.underlying3 (by intro e h; cases h) (by intro h; cases h) Tryd.underlying5 rfl rfl (r := ((48 + n % 10 : Nat) : Int)) (by first | (rw [wrap8]; omega) | (rw [wrap8]; dsimp only; omega) | (rw [wrap16]; omega) | (rw [wrap64 (by omega)] <;> omega) | (rw [wrapU64 (by omega)] <;> omega))) ?_
   refine AN.br2 (i := 2) (j := 7) (by kernel_rfl) ?_ ?_
   ·refine BR.mk (l' := #[true, true, true, true, true, true, true, false, false, false, false]) rfl rfl rfl ?_
    refine ST.call (post := ?pc1) (sm_call (args := [_]) ?hc1 ⟨Tryd.func22, rfl, rfl, rfl, rfl⟩ rfl rfl rfl rfl) ?_
    case hc1 => exact hr
    rintro _ rfl -
    try dsimp only
    refine AN.br1 (i := 7) (by kernel_rfl) ?_
    refine BR.mk (l' := #[true, true, true, true, true, true, true, true, false, false, false]) rfl rfl rfl ?_
    refine ST.sm (sm_slice (vs := [(0, _)]) (zs := [.d (.p (.int .u8 0))]) 17 Tryd.underlying50 inf5 rfl rfl (by decide) (by decide) (by decide) rfl rfl rfl rfl (by first | rfl | simp [S.clean, S.put, S.newObj, S.forget, V.has, V.hasL, junkIf, setL, V.cs, hasL_i, hasL_d, hasL_b, hasL_s, hasL_n, hasL_rep, hasL_flat, hasL_append, -List.map_set]) (by first | rfl | simp [S.clean, S.put, S.newObj, S.forget, V.has, V.hasL, junkIf, setL, V.cs, hasL_i, hasL_d, hasL_b, hasL_s, hasL_n, hasL_rep, hasL_flat, hasL_append, -List.map_set]) rfl) ?_
    refine AN.br1 (i := 8) (by kernel_rfl) ?_
    refine BR.mk (l' := #[true, true, true, true, true, true, true, true, true, false, false]) rfl rfl rfl ?_
    (first | (refine ST.rd rfl (rd_b2s _ Tryd.underlying50 Tryd.underlying5 Tryd.underlying9 rfl rfl) ?_) | (refine ST.rd rfl (rd_b2s_own ([48 + n % 10]) Tryd.underlying50 Tryd.underlying5 Tryd.underlying9 rfl rfl rfl rfl rfl (by first | rfl | simp)) ?_))
    refine AN.rp (i := 9) (l' := #[true, true, true, true, true, true, true, true, true, true, false]) rfl rfl rfl (fun _ _ h => h) (by kernel_rfl) rfl (rp_adds rfl rfl rfl (by first | assumption | omega)) ?_
    refine AN.rp (i := 10) (l' := #[true, true, true, true, true, true, true, true, true, true, true]) rfl rfl rfl (fun _ _ h => h) (by kernel_rfl) rfl (rp_assign rfl rfl) ?_
    refine AN.nil (by kernel_rfl) ?_
    show Less _ _
    exact Less.dd _
   ·refine BR.mk (l' := #[true, true, false, true, true, true, true, true, false, false, false]) rfl rfl rfl ?_
    refine ST.sm (sm_slice (vs := [(0, _)]) (zs := [.d (.p (.int .u8 0))]) 17 Tryd.underlying50 inf5 rfl rfl (by decide) (by decide) (by decide) rfl rfl rfl rfl (by first | rfl | simp [S.clean, S.put, S.newObj, S.forget, V.has, V.hasL, junkIf, setL, V.cs, hasL_i, hasL_d, hasL_b, hasL_s, hasL_n, hasL_rep, hasL_flat, hasL_append, -List.map_set]) (by first | rfl | simp [S.clean, S.put, S.newObj, S.forget, V.has, V.hasL, junkIf, setL, V.cs, hasL_i, hasL_d, hasL_b, hasL_s, hasL_n, hasL_rep, hasL_flat, hasL_append, -List.map_set]) rfl) ?_
    refine AN.br2 (i := 2) (j := 8) (by kernel_rfl) ?_ ?_
    ·refine BR.mk (l' := #[true, true, true, true, true, true, true, true, false, false, false]) rfl rfl rfl ?_
     refine ST.call (post := ?pc2) (sm_call (args := [_]) ?hc2 ⟨Tryd.func22, rfl, rfl, rfl, rfl⟩ rfl rfl rfl rfl) ?_
     case hc2 => exact hr
     rintro _ rfl -
     try dsimp only
     refine AN.br1 (i := 8) (by kernel_rfl) ?_
     refine BR.mk (l' := #[true, true, true, true, true, true, true, true, true, false, false]) rfl rfl rfl ?_
     (first | (refine ST.rd rfl (rd_b2s _ Tryd.underlying50 Tryd.underlying5 Tryd.underlying9 rfl rfl) ?_) | (refine ST.rd rfl (rd_b2s_own ([48 + n % 10]) Tryd.underlying50 Tryd.underlying5 Tryd.underlying9 rfl rfl rfl rfl rfl (by first | rfl | simp)) ?_))
     refine AN.rp (i := 9) (l' := #[true, true, true, true, true, true, true, true, true, true, false]) rfl rfl rfl (fun _ _ h => h) (by kernel_rfl) rfl (rp_adds rfl rfl rfl (by first | assumption | omega)) ?_
     refine AN.rp (i := 10) (l' := #[true, true, true, true, true, true, true, true, true, true, true]) rfl rfl rfl (fun _ _ h => h) (by kernel_rfl) rfl (rp_assign rfl rfl) ?_
     refine AN.nil (by kernel_rfl) ?_
     show Less _ _
     (try simp only [S.put, S.newObj, setL, V.cs, List.length_cons, List.length_nil, List.take_succ_cons, List.take_zero, List.drop_succ_cons, List.drop_zero, List.drop_nil, List.nil_append, List.cons_append, List.append_nil, Nat.zero_add, Nat.reduceAdd, List.map_cons, List.map_nil, List.set_cons_zero, List.set_cons_succ])
     try simp only [S.dd, ddL, List.contains_cons, List.contains_nil, Nat.reduceBEq, beq_self_eq_true, Bool.or_false, Bool.or_true, Bool.false_or, Bool.true_or, Bool.or_self, if_true, if_false, Bool.false_eq_true, ↓reduceIte]
     exact (Less.of rfl (by repeat (first | exact trivial | refine ⟨⟨_, rfl, Wk.refl _⟩, ?_⟩)) (by repeat (first | exact trivial | refine ⟨rfl, ?_⟩)) rfl)
    ·refine BR.mk (l' := #[true, true, false, true, true, true, true, true, true, false, false]) rfl rfl rfl ?_
     (first | (refine ST.rd rfl (rd_b2s _ Tryd.underlying50 Tryd.underlying5 Tryd.underlying9 rfl rfl) ?_) | (refine ST.rd rfl (rd_b2s_own ([48 + n % 10]) Tryd.underlying50 Tryd.underlying5 Tryd.underlying9 rfl rfl rfl rfl rfl (by first | rfl | simp)) ?_))
     refine AN.br1 (i := 2) (by kernel_rfl) ?_
     refine BR.mk (l' := #[true, true, true, true, true, true, true, true, true, false, false]) rfl rfl rfl ?_
     refine ST.call (post := ?pc3) (sm_call (args := [_]) ?hc3 ⟨Tryd.func22, rfl, rfl, rfl, rfl⟩ rfl rfl rfl rfl) ?_
     case hc3 => exact hr
     rintro _ rfl -
     try dsimp only
     refine AN.rp (i := 9) (l' := #[true, true, true, true, true, true, true, true, true, true, false]) rfl rfl rfl (fun _ _ h => h) (by kernel_rfl) rfl (rp_adds rfl rfl rfl (by first | assumption | omega)) ?_
     refine AN.rp (i := 10) (l' := #[true, true, true, true, true, true, true, true, true, true, true]) rfl rfl rfl (fun _ _ h => h) (by kernel_rfl) rfl (rp_assign rfl rfl) ?_
     refine AN.nil (by kernel_rfl) ?_
     show Less _ _
     (try simp only [S.put, S.newObj, setL, V.cs, List.length_cons, List.length_nil, List.take_succ_cons, List.take_zero, List.drop_succ_cons, List.drop_zero, List.drop_nil, List.nil_append, List.cons_append, List.append_nil, Nat.zero_add, Nat.reduceAdd, List.map_cons, List.map_nil, List.set_cons_zero, List.set_cons_succ])
     try simp only [S.dd, ddL, List.contains_cons, List.contains_nil, Nat.reduceBEq, beq_self_eq_true, Bool.or_false, Bool.or_true, Bool.false_or, Bool.true_or, Bool.or_self, if_true, if_false, Bool.false_eq_true, ↓reduceIte]
     exact (Less.of rfl (by repeat (first | exact trivial | refine ⟨⟨_, rfl, Wk.refl _⟩, ?_⟩)) (by repeat (first | exact trivial | refine ⟨rfl, ?_⟩)) rfl)
   (try simp only [S.put, S.newObj, setL, V.cs, List.length_cons, List.length_nil, List.take_succ_cons, List.take_zero, List.drop_succ_cons, List.drop_zero, List.drop_nil, List.nil_append, List.cons_append, List.append_nil, Nat.zero_add, Nat.reduceAdd, List.map_cons, List.map_nil, List.set_cons_zero, List.set_cons_succ])
   try simp only [S.dd, ddL, List.contains_cons, List.contains_nil, Nat.reduceBEq, beq_self_eq_true, Bool.or_false, Bool.or_true, Bool.false_or, Bool.true_or, Bool.or_self, if_true, if_false, Bool.false_eq_true, ↓reduceIte]
   try simp only [thenS, S.put, S.newObj, setL, V.cs, List.length_cons, List.length_nil, List.take_succ_cons, List.take_zero, List.drop_succ_cons, List.drop_zero, List.drop_nil, List.nil_append, List.cons_append, List.append_nil, Nat.zero_add, Nat.reduceAdd, List.map_cons, List.map_nil, List.set_cons_zero, List.set_cons_succ]
   refine AW.ret ?_
   exact ⟨[_], ⟨rfl, trivial⟩, by rw [← hd]; rfl, by simp [tupOf, V.pure, V.has, V.hasL]⟩
end Go.Proofs.YthflidjnlnmbiaaDoor
