/- NmB: several texts in one. -/
import Derived.Test.YthflidjnlnmbiaaDoorNmA
import Derived.Test.YthflidjnlnmbiaaDoorAmFault
import Derived.Test.YthflidjnlnmbiaaDoorAmPre
import Derived.Test.YthflidjnlnmbiaaDoorAmDec
import Derived.Test.YthflidjnlnmbiaaDoorItoa
import Derived.Test.YthflidjnlnmbiaaDoorAmBld
import Derived.Test.YthflidjnlnmbiaaDoorOpen
import Derived.Test.YthflidjnlnmbiaaDoorAmLaw
namespace Go.Proofs.YthflidjnlnmbiaaDoor
open Go.RowKit
set_option linter.unusedSimpArgs false
set_option linter.unusedVariables false
set_option maxRecDepth 100000

set_option maxHeartbeats 1000000 in
theorem am_NameMay (s : ByteArray) : Fn Tryd.prog 49 [.s s] (fun v => v = .b (nmB s.data.toList)) := by
 obtain ⟨l, hl⟩ : ∃ l, s.data.toList = l := ⟨_, rfl⟩
 obtain ⟨n, hn⟩ : ∃ n, l.length = n := ⟨_, rfl⟩
 have hsz : s.size = n := by rw [← hn, ← hl]; exact Array.length_toList.symm
 rw [hl]
 by_cases hr : 1 ≤ n ∧ n ≤ 12
 ·obtain ⟨hr1, hr2⟩ := hr
  obtain ⟨b0, hb0⟩ : ∃ b0, l[0]? = some b0 := ⟨_, List.getElem?_eq_getElem (by omega)⟩
  have hs0 : s.data.toList[0]? = some b0 := by rw [hl]; exact hb0
  by_cases hd0 : 48 ≤ b0.toNat ∧ b0.toNat ≤ 57
  ·have hR : nmB l = false := wdP_no hb0 (by unfold chLet chDig; omega)
   rw [hR]
   have hcon := Fn.decT (am_Digit b0) hd0
   refine Fn.intro (n := 39) ⟨Tryd.func49, rfl, rfl, rfl, rfl⟩ (by simp [V.pure, V.has, V.hasL]) (by simp) fun w0 out => ?_
   refine AW.seq ?_
   refine AW.region ?_
   refine AL.rp rfl rfl (rp_assign rfl rfl) ?_
   refine AL.nil ?_
   try simp only [thenS, S.put, enum, List.nil_append, List.cons_append, List.append_nil, Nat.zero_add, Nat.reduceAdd]
   refine AW.seq ?_
   refine AW.seq ?_
   refine AW.region ?_
   refine AL.rp rfl rfl (rp_move rfl rfl) ?_
   (first | (refine AL.rp rfl rfl (rp_len_map Tryd.underlying9 rfl rfl (by assumption)) ?_) | (refine AL.rp rfl rfl (rp_len_own Tryd.underlying9 rfl rfl) ?_) | (refine AL.rp rfl rfl (rp_len_sl Tryd.underlying9 rfl rfl) ?_) | (refine AL.rp rfl rfl (rp_len_nil Tryd.underlying9 rfl rfl) ?_) | (refine AL.rp rfl rfl (rp_len_str Tryd.underlying9 rfl rfl) ?_))
   refine AL.call (post := ?pc1) rfl (sm_call (args := [_, _, _]) ?hc1 ⟨Tryd.func35, rfl, rfl, rfl, rfl⟩ rfl rfl rfl rfl) ?_
   case hc1 => first | (refine Fn.decT (am_In _ _ _) ?_; omega) | (refine Fn.decF (am_In _ _ _) ?_; omega) | exact am_In _ _ _
   rintro _ rfl -
   try dsimp only
   refine AL.rp rfl rfl (rp_not rfl rfl) ?_
   refine AL.rp rfl rfl (rp_move rfl rfl) ?_
   (first | (refine AL.noV rfl rfl rfl rfl ?_) | (refine AL.noU rfl ⟨_, rfl, rfl⟩ rfl ?_) | (refine AL.rpy rfl rfl rfl (rp_move rfl rfl) ?_))
   (first | (refine AL.noV rfl rfl rfl rfl ?_) | (refine AL.noU rfl ⟨_, rfl, rfl⟩ rfl ?_) | (refine AL.rpy rfl rfl rfl (rp_index_str Tryd.underlying9 rfl rfl rfl (by first | rfl | omega) (by assumption)) ?_))
   (first | (refine AL.no rfl rfl rfl rfl ?_) | (refine AL.noU rfl ⟨_, rfl, rfl⟩ rfl ?_) | (refine AL.cally (post := ?pc2) rfl rfl (sm_call (args := [_]) ?hc2 ⟨Tryd.func45, rfl, rfl, rfl, rfl⟩ rfl rfl rfl rfl) ?_; (case hc2 => (first | (refine Fn.decT (am_Digit _) ?_; omega) | (refine Fn.decF (am_Digit _) ?_; omega) | exact am_Digit _)); rintro _ rfl -; try dsimp only))
   refine AL.rp rfl rfl (rp_pick rfl rfl rfl) ?_
   refine AL.nil ?_
   try simp only [thenS, S.put, S.newObj, setL, V.cs, List.length_cons, List.length_nil, List.take_succ_cons, List.take_zero, List.drop_succ_cons, List.drop_zero, List.drop_nil, List.nil_append, List.cons_append, List.append_nil, Nat.zero_add, Nat.reduceAdd, List.map_cons, List.map_nil, List.set_cons_zero, List.set_cons_succ]
   refine AW.condT rfl ?_
   refine AW.seq ?_
   refine AW.region ?_
   refine AL.rp rfl rfl (rp_assign rfl rfl) ?_
   refine AL.nil ?_
   try simp only [thenS, S.put]
   refine AW.ret ?_
   -- left over: 
   exact ⟨[_], ⟨rfl, trivial⟩, rfl, by simp [tupOf, V.pure, V.has, V.hasL]⟩
  ·refine Fn.intro (n := 39) ⟨Tryd.func49, rfl, rfl, rfl, rfl⟩ (by simp [V.pure, V.has, V.hasL]) (by simp) fun w0 out => ?_
   refine AW.seq ?_
   refine AW.region ?_
   refine AL.rp rfl rfl (rp_assign rfl rfl) ?_
   refine AL.nil ?_
   try simp only [thenS, S.put, enum, List.nil_append, List.cons_append, List.append_nil, Nat.zero_add, Nat.reduceAdd]
   refine AW.seq ?_
   refine AW.seq ?_
   refine AW.region ?_
   refine AL.rp rfl rfl (rp_move rfl rfl) ?_
   (first | (refine AL.rp rfl rfl (rp_len_map Tryd.underlying9 rfl rfl (by assumption)) ?_) | (refine AL.rp rfl rfl (rp_len_own Tryd.underlying9 rfl rfl) ?_) | (refine AL.rp rfl rfl (rp_len_sl Tryd.underlying9 rfl rfl) ?_) | (refine AL.rp rfl rfl (rp_len_nil Tryd.underlying9 rfl rfl) ?_) | (refine AL.rp rfl rfl (rp_len_str Tryd.underlying9 rfl rfl) ?_))
   refine AL.call (post := ?pc3) rfl (sm_call (args := [_, _, _]) ?hc3 ⟨Tryd.func35, rfl, rfl, rfl, rfl⟩ rfl rfl rfl rfl) ?_
   case hc3 => first | (refine Fn.decT (am_In _ _ _) ?_; omega) | (refine Fn.decF (am_In _ _ _) ?_; omega) | exact am_In _ _ _
   rintro _ rfl -
   try dsimp only
   refine AL.rp rfl rfl (rp_not rfl rfl) ?_
   refine AL.rp rfl rfl (rp_move rfl rfl) ?_
   (first | (refine AL.noV rfl rfl rfl rfl ?_) | (refine AL.noU rfl ⟨_, rfl, rfl⟩ rfl ?_) | (refine AL.rpy rfl rfl rfl (rp_move rfl rfl) ?_))
   (first | (refine AL.noV rfl rfl rfl rfl ?_) | (refine AL.noU rfl ⟨_, rfl, rfl⟩ rfl ?_) | (refine AL.rpy rfl rfl rfl (rp_index_str Tryd.underlying9 rfl rfl rfl (by first | rfl | omega) (by assumption)) ?_))
   (first | (refine AL.no rfl rfl rfl rfl ?_) | (refine AL.noU rfl ⟨_, rfl, rfl⟩ rfl ?_) | (refine AL.cally (post := ?pc4) rfl rfl (sm_call (args := [_]) ?hc4 ⟨Tryd.func45, rfl, rfl, rfl, rfl⟩ rfl rfl rfl rfl) ?_; (case hc4 => (first | (refine Fn.decT (am_Digit _) ?_; omega) | (refine Fn.decF (am_Digit _) ?_; omega) | exact am_Digit _)); rintro _ rfl -; try dsimp only))
   refine AL.rp rfl rfl (rp_pick rfl rfl rfl) ?_
   refine AL.nil ?_
   try simp only [thenS, S.put, S.newObj, setL, V.cs, List.length_cons, List.length_nil, List.take_succ_cons, List.take_zero, List.drop_succ_cons, List.drop_zero, List.drop_nil, List.nil_append, List.cons_append, List.append_nil, Nat.zero_add, Nat.reduceAdd, List.map_cons, List.map_nil, List.set_cons_zero, List.set_cons_succ]
   refine AW.condF rfl ?_
   refine AW.skip ?_
   try simp only [thenS]
   refine AW.seq ?_
   refine AW.seq ?_
   refine AW.region ?_
   refine AL.rp rfl rfl (rp_assign rfl rfl) ?_
   refine AL.nil ?_
   try simp only [thenS, S.put]
   refine AW.block ?_
   -- left over: 
   refine AW.loop (fun s' => ∃ k : Nat, k ≤ n ∧ wdP l k ∧ s' = ⟨39, [(0, .s s), (3, .i k)], [], []⟩) (fun s' => n - s'.nat 3) ⟨_, ?_, 0, by omega, fun k b hk => absurd hk (by omega), rfl⟩ ?_
   ·exact (Less.of rfl (by repeat (first | exact trivial | refine ⟨⟨_, rfl, Wk.refl _⟩, ?_⟩ | refine ⟨⟨_, rfl, Wk.nil _ _⟩, ?_⟩ | refine ⟨⟨_, rfl, Wk.junk _⟩, ?_⟩)) (by repeat (first | exact trivial | refine ⟨rfl, ?_⟩)) rfl)
   rintro s' ⟨k, hk, hw, rfl⟩
   by_cases hlt : k < n
   ·obtain ⟨b, hb⟩ : ∃ b, l[k]? = some b := ⟨_, List.getElem?_eq_getElem (by omega)⟩
    have hsb : s.data.toList[k]? = some b := by rw [hl]; exact hb
    by_cases h1 : 97 ≤ b.toNat ∧ b.toNat ≤ 122
    ·have hw2 := wdP_snoc hw hb (.inl (.inl h1))
     obtain ⟨h1a, h1b⟩ := h1
     refine AW.seq ?_
     refine AW.seq ?_
     refine AW.region ?_
     refine AL.rp rfl rfl (rp_move rfl rfl) ?_
     refine AL.rp rfl rfl (rp_move rfl rfl) ?_
     (first | (refine AL.rp rfl rfl (rp_len_map Tryd.underlying9 rfl rfl (by assumption)) ?_) | (refine AL.rp rfl rfl (rp_len_own Tryd.underlying9 rfl rfl) ?_) | (refine AL.rp rfl rfl (rp_len_sl Tryd.underlying9 rfl rfl) ?_) | (refine AL.rp rfl rfl (rp_len_nil Tryd.underlying9 rfl rfl) ?_) | (refine AL.rp rfl rfl (rp_len_str Tryd.underlying9 rfl rfl) ?_))
     (first | (refine AL.rp rfl rfl (rp_lssT rfl rfl rfl (by first | assumption | omega | (dsimp only; omega))) ?_) | (refine AL.rp rfl rfl (rp_lssF rfl rfl rfl (by first | assumption | omega | (dsimp only; omega))) ?_) | (refine AL.rp rfl rfl (rp_lss rfl rfl rfl) ?_))
     refine AL.nil ?_
     try simp only [thenS, S.put]
     refine AW.condT rfl ?_
     refine AW.skip ?_
     try simp only [thenS]
     refine AW.seq ?_
     refine AW.block ?_
     refine AW.seq ?_
     refine AW.region ?_
     refine AL.rp rfl rfl (rp_move rfl rfl) ?_
     refine AL.rp rfl rfl (rp_move rfl rfl) ?_
     refine AL.rp rfl rfl (rp_index_str Tryd.underlying9 rfl rfl rfl (by first | rfl | omega) (by assumption)) ?_
     refine AL.rp rfl rfl (rp_assign rfl rfl) ?_
     refine AL.nil ?_
     try simp only [thenS, S.put]
     refine AW.seq ?_
     refine AW.region ?_
     refine AL.rp rfl rfl (rp_move rfl rfl) ?_
     (first | (refine AL.rp rfl rfl (rp_geqT rfl rfl rfl (by first | assumption | omega | (dsimp only; omega))) ?_) | (refine AL.rp rfl rfl (rp_geqF rfl rfl rfl (by first | assumption | omega | (dsimp only; omega))) ?_) | (refine AL.rp rfl rfl (rp_geq rfl rfl rfl) ?_))
     refine AL.rp rfl rfl (rp_move rfl rfl) ?_
     (first | (refine AL.noV rfl rfl rfl rfl ?_) | (refine AL.noU rfl ⟨_, rfl, rfl⟩ rfl ?_) | (refine AL.rpy rfl rfl rfl (rp_move rfl rfl) ?_))
     (first | (refine AL.noV rfl rfl rfl rfl ?_) | (refine AL.noU rfl ⟨_, rfl, rfl⟩ rfl ?_) | (refine AL.rpy rfl rfl rfl (rp_leqT rfl rfl rfl (by first | assumption | omega | (dsimp only; omega))) ?_) | (refine AL.rpy rfl rfl rfl (rp_leqF rfl rfl rfl (by first | assumption | omega | (dsimp only; omega))) ?_) | (refine AL.rpy rfl rfl rfl (rp_leq rfl rfl rfl) ?_))
     refine AL.rp rfl rfl (rp_pick rfl rfl rfl) ?_
     refine AL.rp rfl rfl (rp_not rfl rfl) ?_
     refine AL.rp rfl rfl (rp_move rfl rfl) ?_
     (first | (refine AL.noV rfl rfl rfl rfl ?_) | (refine AL.noU rfl ⟨_, rfl, rfl⟩ rfl ?_) | (refine AL.rpy rfl rfl rfl (rp_move rfl rfl) ?_))
     (first | (refine AL.noV rfl rfl rfl rfl ?_) | (refine AL.noU rfl ⟨_, rfl, rfl⟩ rfl ?_) | (refine AL.rpy rfl rfl rfl (rp_neqT rfl rfl rfl (by first | assumption | omega | (dsimp only; omega))) ?_) | (refine AL.rpy rfl rfl rfl (rp_neqF rfl rfl rfl (by first | assumption | omega | (dsimp only; omega))) ?_) | (refine AL.rpy rfl rfl rfl (rp_neq rfl rfl rfl) ?_))
     refine AL.rp rfl rfl (rp_pick rfl rfl rfl) ?_
     refine AL.rp rfl rfl (rp_move rfl rfl) ?_
     (first | (refine AL.noV rfl rfl rfl rfl ?_) | (refine AL.noU rfl ⟨_, rfl, rfl⟩ rfl ?_) | (refine AL.rpy rfl rfl rfl (rp_move rfl rfl) ?_))
     (first | (refine AL.no rfl rfl rfl rfl ?_) | (refine AL.noU rfl ⟨_, rfl, rfl⟩ rfl ?_) | (refine AL.cally (post := ?pc5) rfl rfl (sm_call (args := [_]) ?hc5 ⟨Tryd.func45, rfl, rfl, rfl, rfl⟩ rfl rfl rfl rfl) ?_; (case hc5 => (first | (refine Fn.decT (am_Digit _) ?_; omega) | (refine Fn.decF (am_Digit _) ?_; omega) | exact am_Digit _)); rintro _ rfl -; try dsimp only))
     (first | (refine AL.noV rfl rfl rfl rfl ?_) | (refine AL.noU rfl ⟨_, rfl, rfl⟩ rfl ?_) | (refine AL.rpy rfl rfl rfl (rp_not rfl rfl) ?_))
     refine AL.rp rfl rfl (rp_pick rfl rfl rfl) ?_
     refine AL.nil ?_
     try simp only [thenS, S.put, S.newObj, setL, V.cs, List.length_cons, List.length_nil, List.take_succ_cons, List.take_zero, List.drop_succ_cons, List.drop_zero, List.drop_nil, List.nil_append, List.cons_append, List.append_nil, Nat.zero_add, Nat.reduceAdd, List.map_cons, List.map_nil, List.set_cons_zero, List.set_cons_succ]
     refine AW.condF rfl ?_
     refine AW.skip ?_
     try simp only [thenS]
     refine AW.region ?_
     refine AL.rp rfl rfl (rp_move rfl rfl) ?_
     refine AL.rp rfl rfl (rp_add rfl rfl rfl (by first | omega | (dsimp only; omega))) ?_
     refine AL.rp rfl rfl (rp_assign rfl rfl) ?_
     refine AL.nil ?_
     try simp only [thenS, S.put]
     -- left over: 
     refine ⟨_, ?_, ⟨k + 1, by omega, hw2, rfl⟩, ?_⟩
     ·exact (Less.of rfl (by repeat (first | exact trivial | refine ⟨⟨_, rfl, Wk.refl _⟩, ?_⟩ | refine ⟨⟨_, rfl, Wk.nil _ _⟩, ?_⟩ | refine ⟨⟨_, rfl, Wk.junk _⟩, ?_⟩)) (by repeat (first | exact trivial | refine ⟨rfl, ?_⟩)) rfl)
     ·simp [S.nat, fnd]; omega
    ·by_cases h2 : b.toNat = 95
     ·have hw2 := wdP_snoc hw hb (.inl (.inr h2))
      have h2a : ¬ 97 ≤ b.toNat := by omega
      have h2b : (b.toNat : Int) = 95 := by omega
      refine AW.seq ?_
      refine AW.seq ?_
      refine AW.region ?_
      refine AL.rp rfl rfl (rp_move rfl rfl) ?_
      refine AL.rp rfl rfl (rp_move rfl rfl) ?_
      (first | (refine AL.rp rfl rfl (rp_len_map Tryd.underlying9 rfl rfl (by assumption)) ?_) | (refine AL.rp rfl rfl (rp_len_own Tryd.underlying9 rfl rfl) ?_) | (refine AL.rp rfl rfl (rp_len_sl Tryd.underlying9 rfl rfl) ?_) | (refine AL.rp rfl rfl (rp_len_nil Tryd.underlying9 rfl rfl) ?_) | (refine AL.rp rfl rfl (rp_len_str Tryd.underlying9 rfl rfl) ?_))
      (first | (refine AL.rp rfl rfl (rp_lssT rfl rfl rfl (by first | assumption | omega | (dsimp only; omega))) ?_) | (refine AL.rp rfl rfl (rp_lssF rfl rfl rfl (by first | assumption | omega | (dsimp only; omega))) ?_) | (refine AL.rp rfl rfl (rp_lss rfl rfl rfl) ?_))
      refine AL.nil ?_
      try simp only [thenS, S.put]
      refine AW.condT rfl ?_
      refine AW.skip ?_
      try simp only [thenS]
      refine AW.seq ?_
      refine AW.block ?_
      refine AW.seq ?_
      refine AW.region ?_
      refine AL.rp rfl rfl (rp_move rfl rfl) ?_
      refine AL.rp rfl rfl (rp_move rfl rfl) ?_
      refine AL.rp rfl rfl (rp_index_str Tryd.underlying9 rfl rfl rfl (by first | rfl | omega) (by assumption)) ?_
      refine AL.rp rfl rfl (rp_assign rfl rfl) ?_
      refine AL.nil ?_
      try simp only [thenS, S.put]
      refine AW.seq ?_
      refine AW.region ?_
      refine AL.rp rfl rfl (rp_move rfl rfl) ?_
      (first | (refine AL.rp rfl rfl (rp_geqT rfl rfl rfl (by first | assumption | omega | (dsimp only; omega))) ?_) | (refine AL.rp rfl rfl (rp_geqF rfl rfl rfl (by first | assumption | omega | (dsimp only; omega))) ?_) | (refine AL.rp rfl rfl (rp_geq rfl rfl rfl) ?_))
      refine AL.rp rfl rfl (rp_move rfl rfl) ?_
      (first | (refine AL.noV rfl rfl rfl rfl ?_) | (refine AL.noU rfl ⟨_, rfl, rfl⟩ rfl ?_) | (refine AL.rpy rfl rfl rfl (rp_move rfl rfl) ?_))
      (first | (refine AL.noV rfl rfl rfl rfl ?_) | (refine AL.noU rfl ⟨_, rfl, rfl⟩ rfl ?_) | (refine AL.rpy rfl rfl rfl (rp_leqT rfl rfl rfl (by first | assumption | omega | (dsimp only; omega))) ?_) | (refine AL.rpy rfl rfl rfl (rp_leqF rfl rfl rfl (by first | assumption | omega | (dsimp only; omega))) ?_) | (refine AL.rpy rfl rfl rfl (rp_leq rfl rfl rfl) ?_))
      refine AL.rp rfl rfl (rp_pick rfl rfl rfl) ?_
      refine AL.rp rfl rfl (rp_not rfl rfl) ?_
      refine AL.rp rfl rfl (rp_move rfl rfl) ?_
      (first | (refine AL.noV rfl rfl rfl rfl ?_) | (refine AL.noU rfl ⟨_, rfl, rfl⟩ rfl ?_) | (refine AL.rpy rfl rfl rfl (rp_move rfl rfl) ?_))
      (first | (refine AL.noV rfl rfl rfl rfl ?_) | (refine AL.noU rfl ⟨_, rfl, rfl⟩ rfl ?_) | (refine AL.rpy rfl rfl rfl (rp_neqT rfl rfl rfl (by first | assumption | omega | (dsimp only; omega))) ?_) | (refine AL.rpy rfl rfl rfl (rp_neqF rfl rfl rfl (by first | assumption | omega | (dsimp only; omega))) ?_) | (refine AL.rpy rfl rfl rfl (rp_neq rfl rfl rfl) ?_))
      refine AL.rp rfl rfl (rp_pick rfl rfl rfl) ?_
      refine AL.rp rfl rfl (rp_move rfl rfl) ?_
      (first | (refine AL.noV rfl rfl rfl rfl ?_) | (refine AL.noU rfl ⟨_, rfl, rfl⟩ rfl ?_) | (refine AL.rpy rfl rfl rfl (rp_move rfl rfl) ?_))
      (first | (refine AL.no rfl rfl rfl rfl ?_) | (refine AL.noU rfl ⟨_, rfl, rfl⟩ rfl ?_) | (refine AL.cally (post := ?pc6) rfl rfl (sm_call (args := [_]) ?hc6 ⟨Tryd.func45, rfl, rfl, rfl, rfl⟩ rfl rfl rfl rfl) ?_; (case hc6 => (first | (refine Fn.decT (am_Digit _) ?_; omega) | (refine Fn.decF (am_Digit _) ?_; omega) | exact am_Digit _)); rintro _ rfl -; try dsimp only))
      (first | (refine AL.noV rfl rfl rfl rfl ?_) | (refine AL.noU rfl ⟨_, rfl, rfl⟩ rfl ?_) | (refine AL.rpy rfl rfl rfl (rp_not rfl rfl) ?_))
      refine AL.rp rfl rfl (rp_pick rfl rfl rfl) ?_
      refine AL.nil ?_
      try simp only [thenS, S.put, S.newObj, setL, V.cs, List.length_cons, List.length_nil, List.take_succ_cons, List.take_zero, List.drop_succ_cons, List.drop_zero, List.drop_nil, List.nil_append, List.cons_append, List.append_nil, Nat.zero_add, Nat.reduceAdd, List.map_cons, List.map_nil, List.set_cons_zero, List.set_cons_succ]
      refine AW.condF rfl ?_
      refine AW.skip ?_
      try simp only [thenS]
      refine AW.region ?_
      refine AL.rp rfl rfl (rp_move rfl rfl) ?_
      refine AL.rp rfl rfl (rp_add rfl rfl rfl (by first | omega | (dsimp only; omega))) ?_
      refine AL.rp rfl rfl (rp_assign rfl rfl) ?_
      refine AL.nil ?_
      try simp only [thenS, S.put]
      -- left over: 
      refine ⟨_, ?_, ⟨k + 1, by omega, hw2, rfl⟩, ?_⟩
      ·exact (Less.of rfl (by repeat (first | exact trivial | refine ⟨⟨_, rfl, Wk.refl _⟩, ?_⟩ | refine ⟨⟨_, rfl, Wk.nil _ _⟩, ?_⟩ | refine ⟨⟨_, rfl, Wk.junk _⟩, ?_⟩)) (by repeat (first | exact trivial | refine ⟨rfl, ?_⟩)) rfl)
      ·simp [S.nat, fnd]; omega
     ·by_cases h3 : 48 ≤ b.toNat ∧ b.toNat ≤ 57
      ·have hk0 : 0 < k := by
        rcases Nat.eq_zero_or_pos k with h0 | h0
        ·subst h0
         rw [hb0] at hb
         cases hb
         exact absurd h3 hd0
        ·exact h0
       have hw2 := wdP_snoc hw hb (.inr ⟨h3, hk0⟩)
       have h3a : ¬ 97 ≤ b.toNat := by omega
       have h3b : ¬ (b.toNat : Int) = 95 := by omega
       refine AW.seq ?_
       refine AW.seq ?_
       refine AW.region ?_
       refine AL.rp rfl rfl (rp_move rfl rfl) ?_
       refine AL.rp rfl rfl (rp_move rfl rfl) ?_
       (first | (refine AL.rp rfl rfl (rp_len_map Tryd.underlying9 rfl rfl (by assumption)) ?_) | (refine AL.rp rfl rfl (rp_len_own Tryd.underlying9 rfl rfl) ?_) | (refine AL.rp rfl rfl (rp_len_sl Tryd.underlying9 rfl rfl) ?_) | (refine AL.rp rfl rfl (rp_len_nil Tryd.underlying9 rfl rfl) ?_) | (refine AL.rp rfl rfl (rp_len_str Tryd.underlying9 rfl rfl) ?_))
       (first | (refine AL.rp rfl rfl (rp_lssT rfl rfl rfl (by first | assumption | omega | (dsimp only; omega))) ?_) | (refine AL.rp rfl rfl (rp_lssF rfl rfl rfl (by first | assumption | omega | (dsimp only; omega))) ?_) | (refine AL.rp rfl rfl (rp_lss rfl rfl rfl) ?_))
       refine AL.nil ?_
       try simp only [thenS, S.put]
       refine AW.condT rfl ?_
       refine AW.skip ?_
       try simp only [thenS]
       refine AW.seq ?_
       refine AW.block ?_
       refine AW.seq ?_
       refine AW.region ?_
       refine AL.rp rfl rfl (rp_move rfl rfl) ?_
       refine AL.rp rfl rfl (rp_move rfl rfl) ?_
       refine AL.rp rfl rfl (rp_index_str Tryd.underlying9 rfl rfl rfl (by first | rfl | omega) (by assumption)) ?_
       refine AL.rp rfl rfl (rp_assign rfl rfl) ?_
       refine AL.nil ?_
       try simp only [thenS, S.put]
       refine AW.seq ?_
       refine AW.region ?_
       refine AL.rp rfl rfl (rp_move rfl rfl) ?_
       (first | (refine AL.rp rfl rfl (rp_geqT rfl rfl rfl (by first | assumption | omega | (dsimp only; omega))) ?_) | (refine AL.rp rfl rfl (rp_geqF rfl rfl rfl (by first | assumption | omega | (dsimp only; omega))) ?_) | (refine AL.rp rfl rfl (rp_geq rfl rfl rfl) ?_))
       refine AL.rp rfl rfl (rp_move rfl rfl) ?_
       (first | (refine AL.noV rfl rfl rfl rfl ?_) | (refine AL.noU rfl ⟨_, rfl, rfl⟩ rfl ?_) | (refine AL.rpy rfl rfl rfl (rp_move rfl rfl) ?_))
       (first | (refine AL.noV rfl rfl rfl rfl ?_) | (refine AL.noU rfl ⟨_, rfl, rfl⟩ rfl ?_) | (refine AL.rpy rfl rfl rfl (rp_leqT rfl rfl rfl (by first | assumption | omega | (dsimp only; omega))) ?_) | (refine AL.rpy rfl rfl rfl (rp_leqF rfl rfl rfl (by first | assumption | omega | (dsimp only; omega))) ?_) | (refine AL.rpy rfl rfl rfl (rp_leq rfl rfl rfl) ?_))
       refine AL.rp rfl rfl (rp_pick rfl rfl rfl) ?_
       refine AL.rp rfl rfl (rp_not rfl rfl) ?_
       refine AL.rp rfl rfl (rp_move rfl rfl) ?_
       (first | (refine AL.noV rfl rfl rfl rfl ?_) | (refine AL.noU rfl ⟨_, rfl, rfl⟩ rfl ?_) | (refine AL.rpy rfl rfl rfl (rp_move rfl rfl) ?_))
       (first | (refine AL.noV rfl rfl rfl rfl ?_) | (refine AL.noU rfl ⟨_, rfl, rfl⟩ rfl ?_) | (refine AL.rpy rfl rfl rfl (rp_neqT rfl rfl rfl (by first | assumption | omega | (dsimp only; omega))) ?_) | (refine AL.rpy rfl rfl rfl (rp_neqF rfl rfl rfl (by first | assumption | omega | (dsimp only; omega))) ?_) | (refine AL.rpy rfl rfl rfl (rp_neq rfl rfl rfl) ?_))
       refine AL.rp rfl rfl (rp_pick rfl rfl rfl) ?_
       refine AL.rp rfl rfl (rp_move rfl rfl) ?_
       (first | (refine AL.noV rfl rfl rfl rfl ?_) | (refine AL.noU rfl ⟨_, rfl, rfl⟩ rfl ?_) | (refine AL.rpy rfl rfl rfl (rp_move rfl rfl) ?_))
       (first | (refine AL.no rfl rfl rfl rfl ?_) | (refine AL.noU rfl ⟨_, rfl, rfl⟩ rfl ?_) | (refine AL.cally (post := ?pc7) rfl rfl (sm_call (args := [_]) ?hc7 ⟨Tryd.func45, rfl, rfl, rfl, rfl⟩ rfl rfl rfl rfl) ?_; (case hc7 => (first | (refine Fn.decT (am_Digit _) ?_; omega) | (refine Fn.decF (am_Digit _) ?_; omega) | exact am_Digit _)); rintro _ rfl -; try dsimp only))
       (first | (refine AL.noV rfl rfl rfl rfl ?_) | (refine AL.noU rfl ⟨_, rfl, rfl⟩ rfl ?_) | (refine AL.rpy rfl rfl rfl (rp_not rfl rfl) ?_))
       refine AL.rp rfl rfl (rp_pick rfl rfl rfl) ?_
       refine AL.nil ?_
       try simp only [thenS, S.put, S.newObj, setL, V.cs, List.length_cons, List.length_nil, List.take_succ_cons, List.take_zero, List.drop_succ_cons, List.drop_zero, List.drop_nil, List.nil_append, List.cons_append, List.append_nil, Nat.zero_add, Nat.reduceAdd, List.map_cons, List.map_nil, List.set_cons_zero, List.set_cons_succ]
       refine AW.condF rfl ?_
       refine AW.skip ?_
       try simp only [thenS]
       refine AW.region ?_
       refine AL.rp rfl rfl (rp_move rfl rfl) ?_
       refine AL.rp rfl rfl (rp_add rfl rfl rfl (by first | omega | (dsimp only; omega))) ?_
       refine AL.rp rfl rfl (rp_assign rfl rfl) ?_
       refine AL.nil ?_
       try simp only [thenS, S.put]
       -- left over: 
       refine ⟨_, ?_, ⟨k + 1, by omega, hw2, rfl⟩, ?_⟩
       ·exact (Less.of rfl (by repeat (first | exact trivial | refine ⟨⟨_, rfl, Wk.refl _⟩, ?_⟩ | refine ⟨⟨_, rfl, Wk.nil _ _⟩, ?_⟩ | refine ⟨⟨_, rfl, Wk.junk _⟩, ?_⟩)) (by repeat (first | exact trivial | refine ⟨rfl, ?_⟩)) rfl)
       ·simp [S.nat, fnd]; omega
      ·have hR : nmB l = false := wdP_no hb (by unfold chLet chDig; omega)
       rw [hR]
       by_cases h4 : 97 ≤ b.toNat
       ·have h4b : ¬ b.toNat ≤ 122 := by omega
        refine AW.seq ?_
        refine AW.seq ?_
        refine AW.region ?_
        refine AL.rp rfl rfl (rp_move rfl rfl) ?_
        refine AL.rp rfl rfl (rp_move rfl rfl) ?_
        (first | (refine AL.rp rfl rfl (rp_len_map Tryd.underlying9 rfl rfl (by assumption)) ?_) | (refine AL.rp rfl rfl (rp_len_own Tryd.underlying9 rfl rfl) ?_) | (refine AL.rp rfl rfl (rp_len_sl Tryd.underlying9 rfl rfl) ?_) | (refine AL.rp rfl rfl (rp_len_nil Tryd.underlying9 rfl rfl) ?_) | (refine AL.rp rfl rfl (rp_len_str Tryd.underlying9 rfl rfl) ?_))
        (first | (refine AL.rp rfl rfl (rp_lssT rfl rfl rfl (by first | assumption | omega | (dsimp only; omega))) ?_) | (refine AL.rp rfl rfl (rp_lssF rfl rfl rfl (by first | assumption | omega | (dsimp only; omega))) ?_) | (refine AL.rp rfl rfl (rp_lss rfl rfl rfl) ?_))
        refine AL.nil ?_
        try simp only [thenS, S.put]
        refine AW.condT rfl ?_
        refine AW.skip ?_
        try simp only [thenS]
        refine AW.seq ?_
        refine AW.block ?_
        refine AW.seq ?_
        refine AW.region ?_
        refine AL.rp rfl rfl (rp_move rfl rfl) ?_
        refine AL.rp rfl rfl (rp_move rfl rfl) ?_
        refine AL.rp rfl rfl (rp_index_str Tryd.underlying9 rfl rfl rfl (by first | rfl | omega) (by assumption)) ?_
        refine AL.rp rfl rfl (rp_assign rfl rfl) ?_
        refine AL.nil ?_
        try simp only [thenS, S.put]
        refine AW.seq ?_
        refine AW.region ?_
        refine AL.rp rfl rfl (rp_move rfl rfl) ?_
        (first | (refine AL.rp rfl rfl (rp_geqT rfl rfl rfl (by first | assumption | omega | (dsimp only; omega))) ?_) | (refine AL.rp rfl rfl (rp_geqF rfl rfl rfl (by first | assumption | omega | (dsimp only; omega))) ?_) | (refine AL.rp rfl rfl (rp_geq rfl rfl rfl) ?_))
        refine AL.rp rfl rfl (rp_move rfl rfl) ?_
        (first | (refine AL.noV rfl rfl rfl rfl ?_) | (refine AL.noU rfl ⟨_, rfl, rfl⟩ rfl ?_) | (refine AL.rpy rfl rfl rfl (rp_move rfl rfl) ?_))
        (first | (refine AL.noV rfl rfl rfl rfl ?_) | (refine AL.noU rfl ⟨_, rfl, rfl⟩ rfl ?_) | (refine AL.rpy rfl rfl rfl (rp_leqT rfl rfl rfl (by first | assumption | omega | (dsimp only; omega))) ?_) | (refine AL.rpy rfl rfl rfl (rp_leqF rfl rfl rfl (by first | assumption | omega | (dsimp only; omega))) ?_) | (refine AL.rpy rfl rfl rfl (rp_leq rfl rfl rfl) ?_))
        refine AL.rp rfl rfl (rp_pick rfl rfl rfl) ?_
        refine AL.rp rfl rfl (rp_not rfl rfl) ?_
        refine AL.rp rfl rfl (rp_move rfl rfl) ?_
        (first | (refine AL.noV rfl rfl rfl rfl ?_) | (refine AL.noU rfl ⟨_, rfl, rfl⟩ rfl ?_) | (refine AL.rpy rfl rfl rfl (rp_move rfl rfl) ?_))
        (first | (refine AL.noV rfl rfl rfl rfl ?_) | (refine AL.noU rfl ⟨_, rfl, rfl⟩ rfl ?_) | (refine AL.rpy rfl rfl rfl (rp_neqT rfl rfl rfl (by first | assumption | omega | (dsimp only; omega))) ?_) | (refine AL.rpy rfl rfl rfl (rp_neqF rfl rfl rfl (by first | assumption | omega | (dsimp only; omega))) ?_) | (refine AL.rpy rfl rfl rfl (rp_neq rfl rfl rfl) ?_))
        refine AL.rp rfl rfl (rp_pick rfl rfl rfl) ?_
        refine AL.rp rfl rfl (rp_move rfl rfl) ?_
        (first | (refine AL.noV rfl rfl rfl rfl ?_) | (refine AL.noU rfl ⟨_, rfl, rfl⟩ rfl ?_) | (refine AL.rpy rfl rfl rfl (rp_move rfl rfl) ?_))
        (first | (refine AL.no rfl rfl rfl rfl ?_) | (refine AL.noU rfl ⟨_, rfl, rfl⟩ rfl ?_) | (refine AL.cally (post := ?pc8) rfl rfl (sm_call (args := [_]) ?hc8 ⟨Tryd.func45, rfl, rfl, rfl, rfl⟩ rfl rfl rfl rfl) ?_; (case hc8 => (first | (refine Fn.decT (am_Digit _) ?_; omega) | (refine Fn.decF (am_Digit _) ?_; omega) | exact am_Digit _)); rintro _ rfl -; try dsimp only))
        (first | (refine AL.noV rfl rfl rfl rfl ?_) | (refine AL.noU rfl ⟨_, rfl, rfl⟩ rfl ?_) | (refine AL.rpy rfl rfl rfl (rp_not rfl rfl) ?_))
        refine AL.rp rfl rfl (rp_pick rfl rfl rfl) ?_
        refine AL.nil ?_
        try simp only [thenS, S.put, S.newObj, setL, V.cs, List.length_cons, List.length_nil, List.take_succ_cons, List.take_zero, List.drop_succ_cons, List.drop_zero, List.drop_nil, List.nil_append, List.cons_append, List.append_nil, Nat.zero_add, Nat.reduceAdd, List.map_cons, List.map_nil, List.set_cons_zero, List.set_cons_succ]
        refine AW.condT rfl ?_
        refine AW.seq ?_
        refine AW.region ?_
        refine AL.rp rfl rfl (rp_assign rfl rfl) ?_
        refine AL.nil ?_
        try simp only [thenS, S.put]
        refine AW.ret ?_
        -- left over: 
        exact ⟨[_], ⟨rfl, trivial⟩, rfl, by simp [tupOf, V.pure, V.has, V.hasL]⟩
       ·skip
        refine AW.seq ?_
        refine AW.seq ?_
        refine AW.region ?_
        refine AL.rp rfl rfl (rp_move rfl rfl) ?_
        refine AL.rp rfl rfl (rp_move rfl rfl) ?_
        (first | (refine AL.rp rfl rfl (rp_len_map Tryd.underlying9 rfl rfl (by assumption)) ?_) | (refine AL.rp rfl rfl (rp_len_own Tryd.underlying9 rfl rfl) ?_) | (refine AL.rp rfl rfl (rp_len_sl Tryd.underlying9 rfl rfl) ?_) | (refine AL.rp rfl rfl (rp_len_nil Tryd.underlying9 rfl rfl) ?_) | (refine AL.rp rfl rfl (rp_len_str Tryd.underlying9 rfl rfl) ?_))
        (first | (refine AL.rp rfl rfl (rp_lssT rfl rfl rfl (by first | assumption | omega | (dsimp only; omega))) ?_) | (refine AL.rp rfl rfl (rp_lssF rfl rfl rfl (by first | assumption | omega | (dsimp only; omega))) ?_) | (refine AL.rp rfl rfl (rp_lss rfl rfl rfl) ?_))
        refine AL.nil ?_
        try simp only [thenS, S.put]
        refine AW.condT rfl ?_
        refine AW.skip ?_
        try simp only [thenS]
        refine AW.seq ?_
        refine AW.block ?_
        refine AW.seq ?_
        refine AW.region ?_
        refine AL.rp rfl rfl (rp_move rfl rfl) ?_
        refine AL.rp rfl rfl (rp_move rfl rfl) ?_
        refine AL.rp rfl rfl (rp_index_str Tryd.underlying9 rfl rfl rfl (by first | rfl | omega) (by assumption)) ?_
        refine AL.rp rfl rfl (rp_assign rfl rfl) ?_
        refine AL.nil ?_
        try simp only [thenS, S.put]
        refine AW.seq ?_
        refine AW.region ?_
        refine AL.rp rfl rfl (rp_move rfl rfl) ?_
        (first | (refine AL.rp rfl rfl (rp_geqT rfl rfl rfl (by first | assumption | omega | (dsimp only; omega))) ?_) | (refine AL.rp rfl rfl (rp_geqF rfl rfl rfl (by first | assumption | omega | (dsimp only; omega))) ?_) | (refine AL.rp rfl rfl (rp_geq rfl rfl rfl) ?_))
        refine AL.rp rfl rfl (rp_move rfl rfl) ?_
        (first | (refine AL.noV rfl rfl rfl rfl ?_) | (refine AL.noU rfl ⟨_, rfl, rfl⟩ rfl ?_) | (refine AL.rpy rfl rfl rfl (rp_move rfl rfl) ?_))
        (first | (refine AL.noV rfl rfl rfl rfl ?_) | (refine AL.noU rfl ⟨_, rfl, rfl⟩ rfl ?_) | (refine AL.rpy rfl rfl rfl (rp_leqT rfl rfl rfl (by first | assumption | omega | (dsimp only; omega))) ?_) | (refine AL.rpy rfl rfl rfl (rp_leqF rfl rfl rfl (by first | assumption | omega | (dsimp only; omega))) ?_) | (refine AL.rpy rfl rfl rfl (rp_leq rfl rfl rfl) ?_))
        refine AL.rp rfl rfl (rp_pick rfl rfl rfl) ?_
        refine AL.rp rfl rfl (rp_not rfl rfl) ?_
        refine AL.rp rfl rfl (rp_move rfl rfl) ?_
        (first | (refine AL.noV rfl rfl rfl rfl ?_) | (refine AL.noU rfl ⟨_, rfl, rfl⟩ rfl ?_) | (refine AL.rpy rfl rfl rfl (rp_move rfl rfl) ?_))
        (first | (refine AL.noV rfl rfl rfl rfl ?_) | (refine AL.noU rfl ⟨_, rfl, rfl⟩ rfl ?_) | (refine AL.rpy rfl rfl rfl (rp_neqT rfl rfl rfl (by first | assumption | omega | (dsimp only; omega))) ?_) | (refine AL.rpy rfl rfl rfl (rp_neqF rfl rfl rfl (by first | assumption | omega | (dsimp only; omega))) ?_) | (refine AL.rpy rfl rfl rfl (rp_neq rfl rfl rfl) ?_))
        refine AL.rp rfl rfl (rp_pick rfl rfl rfl) ?_
        refine AL.rp rfl rfl (rp_move rfl rfl) ?_
        (first | (refine AL.noV rfl rfl rfl rfl ?_) | (refine AL.noU rfl ⟨_, rfl, rfl⟩ rfl ?_) | (refine AL.rpy rfl rfl rfl (rp_move rfl rfl) ?_))
        (first | (refine AL.no rfl rfl rfl rfl ?_) | (refine AL.noU rfl ⟨_, rfl, rfl⟩ rfl ?_) | (refine AL.cally (post := ?pc9) rfl rfl (sm_call (args := [_]) ?hc9 ⟨Tryd.func45, rfl, rfl, rfl, rfl⟩ rfl rfl rfl rfl) ?_; (case hc9 => (first | (refine Fn.decT (am_Digit _) ?_; omega) | (refine Fn.decF (am_Digit _) ?_; omega) | exact am_Digit _)); rintro _ rfl -; try dsimp only))
        (first | (refine AL.noV rfl rfl rfl rfl ?_) | (refine AL.noU rfl ⟨_, rfl, rfl⟩ rfl ?_) | (refine AL.rpy rfl rfl rfl (rp_not rfl rfl) ?_))
        refine AL.rp rfl rfl (rp_pick rfl rfl rfl) ?_
        refine AL.nil ?_
        try simp only [thenS, S.put, S.newObj, setL, V.cs, List.length_cons, List.length_nil, List.take_succ_cons, List.take_zero, List.drop_succ_cons, List.drop_zero, List.drop_nil, List.nil_append, List.cons_append, List.append_nil, Nat.zero_add, Nat.reduceAdd, List.map_cons, List.map_nil, List.set_cons_zero, List.set_cons_succ]
        refine AW.condT rfl ?_
        refine AW.seq ?_
        refine AW.region ?_
        refine AL.rp rfl rfl (rp_assign rfl rfl) ?_
        refine AL.nil ?_
        try simp only [thenS, S.put]
        refine AW.ret ?_
        -- left over: 
        exact ⟨[_], ⟨rfl, trivial⟩, rfl, by simp [tupOf, V.pure, V.has, V.hasL]⟩
   ·obtain rfl : k = n := by omega
    have hR : nmB l = true := wdP_ok (by omega) (by omega) (by rw [hn]; exact hw)
    rw [hR]
    refine AW.seq ?_
    refine AW.seq ?_
    refine AW.region ?_
    refine AL.rp rfl rfl (rp_move rfl rfl) ?_
    refine AL.rp rfl rfl (rp_move rfl rfl) ?_
    (first | (refine AL.rp rfl rfl (rp_len_map Tryd.underlying9 rfl rfl (by assumption)) ?_) | (refine AL.rp rfl rfl (rp_len_own Tryd.underlying9 rfl rfl) ?_) | (refine AL.rp rfl rfl (rp_len_sl Tryd.underlying9 rfl rfl) ?_) | (refine AL.rp rfl rfl (rp_len_nil Tryd.underlying9 rfl rfl) ?_) | (refine AL.rp rfl rfl (rp_len_str Tryd.underlying9 rfl rfl) ?_))
    (first | (refine AL.rp rfl rfl (rp_lssT rfl rfl rfl (by first | assumption | omega | (dsimp only; omega))) ?_) | (refine AL.rp rfl rfl (rp_lssF rfl rfl rfl (by first | assumption | omega | (dsimp only; omega))) ?_) | (refine AL.rp rfl rfl (rp_lss rfl rfl rfl) ?_))
    refine AL.nil ?_
    try simp only [thenS, S.put]
    refine AW.condF rfl ?_
    refine AW.exit ?_
    try simp only [thenS, inBlockS, ↓reduceIte, Nat.reduceEqDiff]
    refine AW.seq ?_
    refine AW.region ?_
    refine AL.rp rfl rfl (rp_assign rfl rfl) ?_
    refine AL.nil ?_
    try simp only [thenS, S.put]
    refine AW.ret ?_
    exact ⟨[_], ⟨rfl, trivial⟩, rfl, by simp [tupOf, V.pure, V.has, V.hasL]⟩
 ·have hR : nmB l = false := nmB_false fun ⟨h1, h2, _⟩ => by omega
  rw [hR]
  refine Fn.intro (n := 39) ⟨Tryd.func49, rfl, rfl, rfl, rfl⟩ (by simp [V.pure, V.has, V.hasL]) (by simp) fun w0 out => ?_
  refine AW.seq ?_
  refine AW.region ?_
  refine AL.rp rfl rfl (rp_assign rfl rfl) ?_
  refine AL.nil ?_
  try simp only [thenS, S.put, enum, List.nil_append, List.cons_append, List.append_nil, Nat.zero_add, Nat.reduceAdd]
  refine AW.seq ?_
  refine AW.seq ?_
  refine AW.region ?_
  refine AL.rp rfl rfl (rp_move rfl rfl) ?_
  (first | (refine AL.rp rfl rfl (rp_len_map Tryd.underlying9 rfl rfl (by assumption)) ?_) | (refine AL.rp rfl rfl (rp_len_own Tryd.underlying9 rfl rfl) ?_) | (refine AL.rp rfl rfl (rp_len_sl Tryd.underlying9 rfl rfl) ?_) | (refine AL.rp rfl rfl (rp_len_nil Tryd.underlying9 rfl rfl) ?_) | (refine AL.rp rfl rfl (rp_len_str Tryd.underlying9 rfl rfl) ?_))
  refine AL.call (post := ?pc10) rfl (sm_call (args := [_, _, _]) ?hc10 ⟨Tryd.func35, rfl, rfl, rfl, rfl⟩ rfl rfl rfl rfl) ?_
  case hc10 => first | (refine Fn.decT (am_In _ _ _) ?_; omega) | (refine Fn.decF (am_In _ _ _) ?_; omega) | exact am_In _ _ _
  rintro _ rfl -
  try dsimp only
  refine AL.rp rfl rfl (rp_not rfl rfl) ?_
  refine AL.rp rfl rfl (rp_move rfl rfl) ?_
  (first | (refine AL.noV rfl rfl rfl rfl ?_) | (refine AL.noU rfl ⟨_, rfl, rfl⟩ rfl ?_) | (refine AL.rpy rfl rfl rfl (rp_move rfl rfl) ?_))
  (first | (refine AL.noV rfl rfl rfl rfl ?_) | (refine AL.noU rfl ⟨_, rfl, rfl⟩ rfl ?_) | (refine AL.rpy rfl rfl rfl (rp_index_str Tryd.underlying9 rfl rfl rfl (by first | rfl | omega) (by assumption)) ?_))
  (first | (refine AL.no rfl rfl rfl rfl ?_) | (refine AL.noU rfl ⟨_, rfl, rfl⟩ rfl ?_) | (refine AL.cally (post := ?pc11) rfl rfl (sm_call (args := [_]) ?hc11 ⟨Tryd.func45, rfl, rfl, rfl, rfl⟩ rfl rfl rfl rfl) ?_; (case hc11 => (first | (refine Fn.decT (am_Digit _) ?_; omega) | (refine Fn.decF (am_Digit _) ?_; omega) | exact am_Digit _)); rintro _ rfl -; try dsimp only))
  refine AL.rp rfl rfl (rp_pick rfl rfl rfl) ?_
  refine AL.nil ?_
  try simp only [thenS, S.put, S.newObj, setL, V.cs, List.length_cons, List.length_nil, List.take_succ_cons, List.take_zero, List.drop_succ_cons, List.drop_zero, List.drop_nil, List.nil_append, List.cons_append, List.append_nil, Nat.zero_add, Nat.reduceAdd, List.map_cons, List.map_nil, List.set_cons_zero, List.set_cons_succ]
  refine AW.condT rfl ?_
  refine AW.seq ?_
  refine AW.region ?_
  refine AL.rp rfl rfl (rp_assign rfl rfl) ?_
  refine AL.nil ?_
  try simp only [thenS, S.put]
  refine AW.ret ?_
  -- left over: 
  exact ⟨[_], ⟨rfl, trivial⟩, rfl, by simp [tupOf, V.pure, V.has, V.hasL]⟩
set_option maxHeartbeats 1000000 in
theorem am_NamesFault (l : List Nm) : Fn Tryd.prog 29 [.d (nmsD l)] (fun v => v = .i (nmF l)) := by
 refine Fn.sl 0 rfl fun hb => ?_
 obtain ⟨len, hl⟩ : ∃ n, l.length = n := ⟨_, rfl⟩
 rw [List.length_map, hl] at hb
 refine Fn.intro (n := 71) ⟨Tryd.func29, rfl, rfl, rfl, rfl⟩ (by simp [V.pure, V.has, V.hasL]) (by simp) fun w0 out => ?_
 by_cases h100 : 100 < len
 ·rw [nmF_size (by rw [hl]; exact h100)]
  refine AW.seq ?_
  refine AW.region ?_
  refine AL.rp rfl rfl (rp_assign rfl rfl) ?_
  refine AL.nil ?_
  try simp only [thenS, S.put, enum, List.nil_append, List.cons_append, List.append_nil, Nat.zero_add, Nat.reduceAdd]
  refine AW.seq ?_
  refine AW.seq ?_
  refine AW.region ?_
  refine AL.rp rfl rfl (rp_move rfl rfl) ?_
  (first | (refine AL.rp rfl rfl (rp_len_map Tryd.underlying29 rfl rfl (by assumption)) ?_) | (refine AL.rp rfl rfl (rp_len_own Tryd.underlying29 rfl rfl) ?_) | (refine AL.rp rfl rfl (rp_len_sl Tryd.underlying29 rfl rfl) ?_) | (refine AL.rp rfl rfl (rp_len_nil Tryd.underlying29 rfl rfl) ?_) | (refine AL.rp rfl rfl (rp_len_str Tryd.underlying29 rfl rfl) ?_))
  (first | (refine AL.rp rfl rfl (rp_gtrT rfl rfl rfl (by first | assumption | omega | (dsimp only; omega))) ?_) | (refine AL.rp rfl rfl (rp_gtrF rfl rfl rfl (by first | assumption | omega | (dsimp only; omega))) ?_) | (refine AL.rp rfl rfl (rp_gtr rfl rfl rfl) ?_))
  refine AL.nil ?_
  try simp only [thenS, S.put]
  refine AW.condT rfl ?_
  refine AW.seq ?_
  refine AW.region ?_
  refine AL.rp rfl rfl (rp_assign rfl rfl) ?_
  refine AL.nil ?_
  try simp only [thenS, S.put]
  refine AW.ret ?_
  exact ⟨[_], ⟨rfl, trivial⟩, rfl, by simp [tupOf, V.pure, V.has, V.hasL]⟩
 refine AW.seq ?_
 refine AW.region ?_
 refine AL.rp rfl rfl (rp_assign rfl rfl) ?_
 refine AL.nil ?_
 try simp only [thenS, S.put, enum, List.nil_append, List.cons_append, List.append_nil, Nat.zero_add, Nat.reduceAdd]
 refine AW.seq ?_
 refine AW.seq ?_
 refine AW.region ?_
 refine AL.rp rfl rfl (rp_move rfl rfl) ?_
 (first | (refine AL.rp rfl rfl (rp_len_map Tryd.underlying29 rfl rfl (by assumption)) ?_) | (refine AL.rp rfl rfl (rp_len_own Tryd.underlying29 rfl rfl) ?_) | (refine AL.rp rfl rfl (rp_len_sl Tryd.underlying29 rfl rfl) ?_) | (refine AL.rp rfl rfl (rp_len_nil Tryd.underlying29 rfl rfl) ?_) | (refine AL.rp rfl rfl (rp_len_str Tryd.underlying29 rfl rfl) ?_))
 (first | (refine AL.rp rfl rfl (rp_gtrT rfl rfl rfl (by first | assumption | omega | (dsimp only; omega))) ?_) | (refine AL.rp rfl rfl (rp_gtrF rfl rfl rfl (by first | assumption | omega | (dsimp only; omega))) ?_) | (refine AL.rp rfl rfl (rp_gtr rfl rfl rfl) ?_))
 refine AL.nil ?_
 try simp only [thenS, S.put]
 refine AW.condF rfl ?_
 refine AW.skip ?_
 try simp only [thenS]
 refine AW.seq ?_
 refine AW.seq ?_
 refine AW.region ?_
 refine AL.rp rfl rfl (rp_assign rfl rfl) ?_
 refine AL.nil ?_
 try simp only [thenS, S.put]
 refine AW.block ?_
 refine AW.loop (fun s' => ∃ k : Nat, k ≤ len ∧ labP l k ∧ s' = ⟨71, [(0, .d (nmsD l)), (3, .i k)], [], []⟩) (fun s' => len - s'.nat 3) ⟨_, ?_, 0, by omega, fun i x hi => absurd hi (by omega), rfl⟩ ?_
 ·exact (Less.of rfl (by repeat (first | exact trivial | refine ⟨⟨_, rfl, Wk.refl _⟩, ?_⟩ | refine ⟨⟨_, rfl, Wk.nil _ _⟩, ?_⟩ | refine ⟨⟨_, rfl, Wk.junk _⟩, ?_⟩)) (by repeat (first | exact trivial | refine ⟨rfl, ?_⟩)) rfl)
 rintro s' ⟨k, hk, hP, rfl⟩
 by_cases hlt : k < len
 ·obtain ⟨x, hx⟩ := get_lt hl hlt
  by_cases hok : 1 ≤ x.b ∧ x.b ≤ 1000
  ·have hP2 := labP_snoc hP hx hok
   refine AW.seq ?_
   refine AW.seq ?_
   refine AW.region ?_
   refine AL.rp rfl rfl (rp_move rfl rfl) ?_
   refine AL.rp rfl rfl (rp_move rfl rfl) ?_
   (first | (refine AL.rp rfl rfl (rp_len_map Tryd.underlying29 rfl rfl (by assumption)) ?_) | (refine AL.rp rfl rfl (rp_len_own Tryd.underlying29 rfl rfl) ?_) | (refine AL.rp rfl rfl (rp_len_sl Tryd.underlying29 rfl rfl) ?_) | (refine AL.rp rfl rfl (rp_len_nil Tryd.underlying29 rfl rfl) ?_) | (refine AL.rp rfl rfl (rp_len_str Tryd.underlying29 rfl rfl) ?_))
   (first | (refine AL.rp rfl rfl (rp_lssT rfl rfl rfl (by first | assumption | omega | (dsimp only; omega))) ?_) | (refine AL.rp rfl rfl (rp_lssF rfl rfl rfl (by first | assumption | omega | (dsimp only; omega))) ?_) | (refine AL.rp rfl rfl (rp_lss rfl rfl rfl) ?_))
   refine AL.nil ?_
   try simp only [thenS, S.put]
   refine AW.condT rfl ?_
   refine AW.skip ?_
   try simp only [thenS]
   refine AW.seq ?_
   refine AW.block ?_
   refine AW.seq ?_
   refine AW.region ?_
   refine AL.rp rfl rfl (rp_move rfl rfl) ?_
   refine AL.rp rfl rfl (rp_move rfl rfl) ?_
   (first | (refine AL.rp rfl rfl (rp_index_map Tryd.underlying29 inf54 rfl rfl rfl rfl (by assumption)) ?_) | (refine AL.rp rfl rfl (rp_index_own Tryd.underlying29 inf54 rfl rfl rfl rfl (by first | assumption | omega)) ?_) | (refine AL.rp rfl rfl (rd_index_sl Tryd.underlying29 inf54 rfl rfl rfl rfl (by assumption)) ?_) | (refine AL.rp rfl rfl (rp_index_own Tryd.underlying29 inf54 rfl rfl rfl (by omega) (by omega)) ?_))
   (first | (refine AL.rp rfl rfl (rp_field_ref Tryd.underlying54 rfl rfl rfl inf3 (by decide) rfl) ?_) | (refine AL.rp rfl rfl (rp_field_ad Tryd.underlying54 rfl rfl rfl inf3 (by decide) rfl) ?_))
   (first | (refine AL.rd rfl rfl (rd_load_ref Tryd.underlying3 rfl rfl rfl rfl rfl rfl) ?_) | (refine AL.rd rfl rfl (rd_load_ad Tryd.underlying3 rfl rfl rfl rfl) ?_) | (refine AL.rd rfl rfl (rd_load_map Tryd.underlying3 rfl rfl rfl rfl rfl rfl (by assumption)) ?_) | (refine AL.rd rfl rfl (rd_load_flat Tryd.underlying3 rfl rfl rfl rfl rfl rfl (fun _ => rfl) (by assumption) rfl) ?_))
   refine AL.call (post := ?pc12) rfl (sm_call (args := [_, _, _]) ?hc12 ⟨Tryd.func35, rfl, rfl, rfl, rfl⟩ rfl rfl rfl rfl) ?_
   case hc12 => first | (refine Fn.decT (am_In _ _ _) ?_; omega) | (refine Fn.decF (am_In _ _ _) ?_; omega) | exact am_In _ _ _
   rintro _ rfl -
   try dsimp only
   refine AL.rp rfl rfl (rp_not rfl rfl) ?_
   refine AL.nil ?_
   try simp only [thenS, S.put, S.newObj, setL, V.cs, List.length_cons, List.length_nil, List.take_succ_cons, List.take_zero, List.drop_succ_cons, List.drop_zero, List.drop_nil, List.nil_append, List.cons_append, List.append_nil, Nat.zero_add, Nat.reduceAdd, List.map_cons, List.map_nil, List.set_cons_zero, List.set_cons_succ]
   refine AW.condF rfl ?_
   refine AW.skip ?_
   try simp only [thenS]
   refine AW.region ?_
   refine AL.rp rfl rfl (rp_move rfl rfl) ?_
   refine AL.rp rfl rfl (rp_add rfl rfl rfl (by first | omega | (dsimp only; omega))) ?_
   refine AL.rp rfl rfl (rp_assign rfl rfl) ?_
   refine AL.nil ?_
   try simp only [thenS, S.put]
   refine ⟨_, ?_, ⟨k + 1, by omega, hP2, rfl⟩, ?_⟩
   ·exact (Less.of rfl (by repeat (first | exact trivial | refine ⟨⟨_, rfl, Wk.refl _⟩, ?_⟩ | refine ⟨⟨_, rfl, Wk.nil _ _⟩, ?_⟩ | refine ⟨⟨_, rfl, Wk.junk _⟩, ?_⟩)) (by repeat (first | exact trivial | refine ⟨rfl, ?_⟩)) rfl)
   ·simp [S.nat, fnd]; omega
  ·rw [nmF_lab (by rw [hl]; exact h100) (labP_not hx hok)]
   refine AW.seq ?_
   refine AW.seq ?_
   refine AW.region ?_
   refine AL.rp rfl rfl (rp_move rfl rfl) ?_
   refine AL.rp rfl rfl (rp_move rfl rfl) ?_
   (first | (refine AL.rp rfl rfl (rp_len_map Tryd.underlying29 rfl rfl (by assumption)) ?_) | (refine AL.rp rfl rfl (rp_len_own Tryd.underlying29 rfl rfl) ?_) | (refine AL.rp rfl rfl (rp_len_sl Tryd.underlying29 rfl rfl) ?_) | (refine AL.rp rfl rfl (rp_len_nil Tryd.underlying29 rfl rfl) ?_) | (refine AL.rp rfl rfl (rp_len_str Tryd.underlying29 rfl rfl) ?_))
   (first | (refine AL.rp rfl rfl (rp_lssT rfl rfl rfl (by first | assumption | omega | (dsimp only; omega))) ?_) | (refine AL.rp rfl rfl (rp_lssF rfl rfl rfl (by first | assumption | omega | (dsimp only; omega))) ?_) | (refine AL.rp rfl rfl (rp_lss rfl rfl rfl) ?_))
   refine AL.nil ?_
   try simp only [thenS, S.put]
   refine AW.condT rfl ?_
   refine AW.skip ?_
   try simp only [thenS]
   refine AW.seq ?_
   refine AW.block ?_
   refine AW.seq ?_
   refine AW.region ?_
   refine AL.rp rfl rfl (rp_move rfl rfl) ?_
   refine AL.rp rfl rfl (rp_move rfl rfl) ?_
   (first | (refine AL.rp rfl rfl (rp_index_map Tryd.underlying29 inf54 rfl rfl rfl rfl (by assumption)) ?_) | (refine AL.rp rfl rfl (rp_index_own Tryd.underlying29 inf54 rfl rfl rfl rfl (by first | assumption | omega)) ?_) | (refine AL.rp rfl rfl (rd_index_sl Tryd.underlying29 inf54 rfl rfl rfl rfl (by assumption)) ?_) | (refine AL.rp rfl rfl (rp_index_own Tryd.underlying29 inf54 rfl rfl rfl (by omega) (by omega)) ?_))
   (first | (refine AL.rp rfl rfl (rp_field_ref Tryd.underlying54 rfl rfl rfl inf3 (by decide) rfl) ?_) | (refine AL.rp rfl rfl (rp_field_ad Tryd.underlying54 rfl rfl rfl inf3 (by decide) rfl) ?_))
   (first | (refine AL.rd rfl rfl (rd_load_ref Tryd.underlying3 rfl rfl rfl rfl rfl rfl) ?_) | (refine AL.rd rfl rfl (rd_load_ad Tryd.underlying3 rfl rfl rfl rfl) ?_) | (refine AL.rd rfl rfl (rd_load_map Tryd.underlying3 rfl rfl rfl rfl rfl rfl (by assumption)) ?_) | (refine AL.rd rfl rfl (rd_load_flat Tryd.underlying3 rfl rfl rfl rfl rfl rfl (fun _ => rfl) (by assumption) rfl) ?_))
   refine AL.call (post := ?pc13) rfl (sm_call (args := [_, _, _]) ?hc13 ⟨Tryd.func35, rfl, rfl, rfl, rfl⟩ rfl rfl rfl rfl) ?_
   case hc13 => first | (refine Fn.decT (am_In _ _ _) ?_; omega) | (refine Fn.decF (am_In _ _ _) ?_; omega) | exact am_In _ _ _
   rintro _ rfl -
   try dsimp only
   refine AL.rp rfl rfl (rp_not rfl rfl) ?_
   refine AL.nil ?_
   try simp only [thenS, S.put, S.newObj, setL, V.cs, List.length_cons, List.length_nil, List.take_succ_cons, List.take_zero, List.drop_succ_cons, List.drop_zero, List.drop_nil, List.nil_append, List.cons_append, List.append_nil, Nat.zero_add, Nat.reduceAdd, List.map_cons, List.map_nil, List.set_cons_zero, List.set_cons_succ]
   refine AW.condT rfl ?_
   refine AW.seq ?_
   refine AW.region ?_
   refine AL.rp rfl rfl (rp_assign rfl rfl) ?_
   refine AL.nil ?_
   try simp only [thenS, S.put]
   refine AW.ret ?_
   exact ⟨[_], ⟨rfl, trivial⟩, rfl, by simp [tupOf, V.pure, V.has, V.hasL]⟩
 have hkl : k = len := by omega
 have hLab : labP l l.length := by rw [hl, ← hkl]; exact hP
 have h100' : ¬ 100 < l.length := by rw [hl]; exact h100
 refine AW.seq ?_
 refine AW.seq ?_
 refine AW.region ?_
 refine AL.rp rfl rfl (rp_move rfl rfl) ?_
 refine AL.rp rfl rfl (rp_move rfl rfl) ?_
 (first | (refine AL.rp rfl rfl (rp_len_map Tryd.underlying29 rfl rfl (by assumption)) ?_) | (refine AL.rp rfl rfl (rp_len_own Tryd.underlying29 rfl rfl) ?_) | (refine AL.rp rfl rfl (rp_len_sl Tryd.underlying29 rfl rfl) ?_) | (refine AL.rp rfl rfl (rp_len_nil Tryd.underlying29 rfl rfl) ?_) | (refine AL.rp rfl rfl (rp_len_str Tryd.underlying29 rfl rfl) ?_))
 (first | (refine AL.rp rfl rfl (rp_lssT rfl rfl rfl (by first | assumption | omega | (dsimp only; omega))) ?_) | (refine AL.rp rfl rfl (rp_lssF rfl rfl rfl (by first | assumption | omega | (dsimp only; omega))) ?_) | (refine AL.rp rfl rfl (rp_lss rfl rfl rfl) ?_))
 refine AL.nil ?_
 try simp only [thenS, S.put]
 refine AW.condF rfl ?_
 refine AW.exit ?_
 try simp only [thenS, inBlockS, ↓reduceIte, Nat.reduceEqDiff]
 refine AW.seq ?_
 refine AW.seq ?_
 refine AW.region ?_
 refine AL.rp rfl rfl (rp_assign rfl rfl) ?_
 refine AL.nil ?_
 try simp only [thenS, S.put]
 refine AW.block ?_
 refine AW.loop (fun s' => ∃ k : Nat, k ≤ len ∧ txtP l k ∧ s' = ⟨71, [(0, .d (nmsD l)), (4, .i k)], [], []⟩) (fun s' => len - s'.nat 4) ⟨_, ?_, 0, by omega, fun i x hi => absurd hi (by omega), rfl⟩ ?_
 ·exact (Less.of rfl (by repeat (first | exact trivial | refine ⟨⟨_, rfl, Wk.refl _⟩, ?_⟩ | refine ⟨⟨_, rfl, Wk.nil _ _⟩, ?_⟩ | refine ⟨⟨_, rfl, Wk.junk _⟩, ?_⟩)) (by repeat (first | exact trivial | refine ⟨rfl, ?_⟩)) rfl)
 clear hlt hk hkl hP
 clear k
 rintro s' ⟨k, hk, hT, rfl⟩
 by_cases hlt : k < len
 ·obtain ⟨x, hx⟩ := get_lt hl hlt
  by_cases hok : nmB x.t.data.toList = true
  ·have hT2 := txtP_snoc hT hx hok
   have hcon := am_NameMay x.t
   rw [hok] at hcon
   refine AW.seq ?_
   refine AW.seq ?_
   refine AW.region ?_
   refine AL.rp rfl rfl (rp_move rfl rfl) ?_
   refine AL.rp rfl rfl (rp_move rfl rfl) ?_
   (first | (refine AL.rp rfl rfl (rp_len_map Tryd.underlying29 rfl rfl (by assumption)) ?_) | (refine AL.rp rfl rfl (rp_len_own Tryd.underlying29 rfl rfl) ?_) | (refine AL.rp rfl rfl (rp_len_sl Tryd.underlying29 rfl rfl) ?_) | (refine AL.rp rfl rfl (rp_len_nil Tryd.underlying29 rfl rfl) ?_) | (refine AL.rp rfl rfl (rp_len_str Tryd.underlying29 rfl rfl) ?_))
   (first | (refine AL.rp rfl rfl (rp_lssT rfl rfl rfl (by first | assumption | omega | (dsimp only; omega))) ?_) | (refine AL.rp rfl rfl (rp_lssF rfl rfl rfl (by first | assumption | omega | (dsimp only; omega))) ?_) | (refine AL.rp rfl rfl (rp_lss rfl rfl rfl) ?_))
   refine AL.nil ?_
   try simp only [thenS, S.put]
   refine AW.condT rfl ?_
   refine AW.skip ?_
   try simp only [thenS]
   refine AW.seq ?_
   refine AW.block ?_
   refine AW.seq ?_
   refine AW.region ?_
   refine AL.rp rfl rfl (rp_move rfl rfl) ?_
   refine AL.rp rfl rfl (rp_move rfl rfl) ?_
   (first | (refine AL.rp rfl rfl (rp_index_map Tryd.underlying29 inf54 rfl rfl rfl rfl (by assumption)) ?_) | (refine AL.rp rfl rfl (rp_index_own Tryd.underlying29 inf54 rfl rfl rfl rfl (by first | assumption | omega)) ?_) | (refine AL.rp rfl rfl (rd_index_sl Tryd.underlying29 inf54 rfl rfl rfl rfl (by assumption)) ?_) | (refine AL.rp rfl rfl (rp_index_own Tryd.underlying29 inf54 rfl rfl rfl (by omega) (by omega)) ?_))
   (first | (refine AL.rp rfl rfl (rp_field_ref Tryd.underlying54 rfl rfl rfl inf9 (by decide) rfl) ?_) | (refine AL.rp rfl rfl (rp_field_ad Tryd.underlying54 rfl rfl rfl inf9 (by decide) rfl) ?_))
   (first | (refine AL.rd rfl rfl (rd_load_ref Tryd.underlying9 rfl rfl rfl rfl rfl rfl) ?_) | (refine AL.rd rfl rfl (rd_load_ad Tryd.underlying9 rfl rfl rfl rfl) ?_) | (refine AL.rd rfl rfl (rd_load_map Tryd.underlying9 rfl rfl rfl rfl rfl rfl (by assumption)) ?_) | (refine AL.rd rfl rfl (rd_load_flat Tryd.underlying9 rfl rfl rfl rfl rfl rfl (fun _ => rfl) (by assumption) rfl) ?_))
   refine AL.call (post := ?pc14) rfl (sm_call (args := [_]) ?hc14 ⟨Tryd.func49, rfl, rfl, rfl, rfl⟩ rfl rfl rfl rfl) ?_
   case hc14 => first | assumption | exact am_NameMay _
   rintro _ rfl -
   try dsimp only
   refine AL.rp rfl rfl (rp_not rfl rfl) ?_
   refine AL.nil ?_
   try simp only [thenS, S.put, S.newObj, setL, V.cs, List.length_cons, List.length_nil, List.take_succ_cons, List.take_zero, List.drop_succ_cons, List.drop_zero, List.drop_nil, List.nil_append, List.cons_append, List.append_nil, Nat.zero_add, Nat.reduceAdd, List.map_cons, List.map_nil, List.set_cons_zero, List.set_cons_succ]
   refine AW.condF rfl ?_
   refine AW.skip ?_
   try simp only [thenS]
   refine AW.region ?_
   refine AL.rp rfl rfl (rp_move rfl rfl) ?_
   refine AL.rp rfl rfl (rp_add rfl rfl rfl (by first | omega | (dsimp only; omega))) ?_
   refine AL.rp rfl rfl (rp_assign rfl rfl) ?_
   refine AL.nil ?_
   try simp only [thenS, S.put]
   -- left over: 
   refine ⟨_, ?_, ⟨k + 1, by omega, hT2, rfl⟩, ?_⟩
   ·exact (Less.of rfl (by repeat (first | exact trivial | refine ⟨⟨_, rfl, Wk.refl _⟩, ?_⟩ | refine ⟨⟨_, rfl, Wk.nil _ _⟩, ?_⟩ | refine ⟨⟨_, rfl, Wk.junk _⟩, ?_⟩)) (by repeat (first | exact trivial | refine ⟨rfl, ?_⟩)) rfl)
   ·simp [S.nat, fnd]; omega
  ·have hok' : nmB x.t.data.toList = false := by simpa using hok
   have hcon := am_NameMay x.t
   rw [hok'] at hcon
   rw [nmF_txt h100' hLab (txtP_not hx hok')]
   refine AW.seq ?_
   refine AW.seq ?_
   refine AW.region ?_
   refine AL.rp rfl rfl (rp_move rfl rfl) ?_
   refine AL.rp rfl rfl (rp_move rfl rfl) ?_
   (first | (refine AL.rp rfl rfl (rp_len_map Tryd.underlying29 rfl rfl (by assumption)) ?_) | (refine AL.rp rfl rfl (rp_len_own Tryd.underlying29 rfl rfl) ?_) | (refine AL.rp rfl rfl (rp_len_sl Tryd.underlying29 rfl rfl) ?_) | (refine AL.rp rfl rfl (rp_len_nil Tryd.underlying29 rfl rfl) ?_) | (refine AL.rp rfl rfl (rp_len_str Tryd.underlying29 rfl rfl) ?_))
   (first | (refine AL.rp rfl rfl (rp_lssT rfl rfl rfl (by first | assumption | omega | (dsimp only; omega))) ?_) | (refine AL.rp rfl rfl (rp_lssF rfl rfl rfl (by first | assumption | omega | (dsimp only; omega))) ?_) | (refine AL.rp rfl rfl (rp_lss rfl rfl rfl) ?_))
   refine AL.nil ?_
   try simp only [thenS, S.put]
   refine AW.condT rfl ?_
   refine AW.skip ?_
   try simp only [thenS]
   refine AW.seq ?_
   refine AW.block ?_
   refine AW.seq ?_
   refine AW.region ?_
   refine AL.rp rfl rfl (rp_move rfl rfl) ?_
   refine AL.rp rfl rfl (rp_move rfl rfl) ?_
   (first | (refine AL.rp rfl rfl (rp_index_map Tryd.underlying29 inf54 rfl rfl rfl rfl (by assumption)) ?_) | (refine AL.rp rfl rfl (rp_index_own Tryd.underlying29 inf54 rfl rfl rfl rfl (by first | assumption | omega)) ?_) | (refine AL.rp rfl rfl (rd_index_sl Tryd.underlying29 inf54 rfl rfl rfl rfl (by assumption)) ?_) | (refine AL.rp rfl rfl (rp_index_own Tryd.underlying29 inf54 rfl rfl rfl (by omega) (by omega)) ?_))
   (first | (refine AL.rp rfl rfl (rp_field_ref Tryd.underlying54 rfl rfl rfl inf9 (by decide) rfl) ?_) | (refine AL.rp rfl rfl (rp_field_ad Tryd.underlying54 rfl rfl rfl inf9 (by decide) rfl) ?_))
   (first | (refine AL.rd rfl rfl (rd_load_ref Tryd.underlying9 rfl rfl rfl rfl rfl rfl) ?_) | (refine AL.rd rfl rfl (rd_load_ad Tryd.underlying9 rfl rfl rfl rfl) ?_) | (refine AL.rd rfl rfl (rd_load_map Tryd.underlying9 rfl rfl rfl rfl rfl rfl (by assumption)) ?_) | (refine AL.rd rfl rfl (rd_load_flat Tryd.underlying9 rfl rfl rfl rfl rfl rfl (fun _ => rfl) (by assumption) rfl) ?_))
   refine AL.call (post := ?pc15) rfl (sm_call (args := [_]) ?hc15 ⟨Tryd.func49, rfl, rfl, rfl, rfl⟩ rfl rfl rfl rfl) ?_
   case hc15 => first | assumption | exact am_NameMay _
   rintro _ rfl -
   try dsimp only
   refine AL.rp rfl rfl (rp_not rfl rfl) ?_
   refine AL.nil ?_
   try simp only [thenS, S.put, S.newObj, setL, V.cs, List.length_cons, List.length_nil, List.take_succ_cons, List.take_zero, List.drop_succ_cons, List.drop_zero, List.drop_nil, List.nil_append, List.cons_append, List.append_nil, Nat.zero_add, Nat.reduceAdd, List.map_cons, List.map_nil, List.set_cons_zero, List.set_cons_succ]
   refine AW.condT rfl ?_
   refine AW.seq ?_
   refine AW.region ?_
   refine AL.rp rfl rfl (rp_assign rfl rfl) ?_
   refine AL.nil ?_
   try simp only [thenS, S.put]
   refine AW.ret ?_
   -- left over: 
   exact ⟨[_], ⟨rfl, trivial⟩, rfl, by simp [tupOf, V.pure, V.has, V.hasL]⟩
 have hkl : k = len := by omega
 have hTxt : txtP l l.length := by rw [hl, ← hkl]; exact hT
 refine AW.seq ?_
 refine AW.seq ?_
 refine AW.region ?_
 refine AL.rp rfl rfl (rp_move rfl rfl) ?_
 refine AL.rp rfl rfl (rp_move rfl rfl) ?_
 (first | (refine AL.rp rfl rfl (rp_len_map Tryd.underlying29 rfl rfl (by assumption)) ?_) | (refine AL.rp rfl rfl (rp_len_own Tryd.underlying29 rfl rfl) ?_) | (refine AL.rp rfl rfl (rp_len_sl Tryd.underlying29 rfl rfl) ?_) | (refine AL.rp rfl rfl (rp_len_nil Tryd.underlying29 rfl rfl) ?_) | (refine AL.rp rfl rfl (rp_len_str Tryd.underlying29 rfl rfl) ?_))
 (first | (refine AL.rp rfl rfl (rp_lssT rfl rfl rfl (by first | assumption | omega | (dsimp only; omega))) ?_) | (refine AL.rp rfl rfl (rp_lssF rfl rfl rfl (by first | assumption | omega | (dsimp only; omega))) ?_) | (refine AL.rp rfl rfl (rp_lss rfl rfl rfl) ?_))
 refine AL.nil ?_
 try simp only [thenS, S.put]
 refine AW.condF rfl ?_
 refine AW.exit ?_
 try simp only [thenS, inBlockS, ↓reduceIte, Nat.reduceEqDiff]
 refine AW.seq ?_
 refine AW.seq ?_
 refine AW.region ?_
 refine AL.rp rfl rfl (rp_assign rfl rfl) ?_
 refine AL.nil ?_
 try simp only [thenS, S.put]
 refine AW.block ?_
 refine AW.loop (fun s' => ∃ k : Nat, k ≤ len ∧ ¬ dupP l k ∧ s' = ⟨71, [(0, .d (nmsD l)), (5, .i k)], [], []⟩) (fun s' => len - s'.nat 5) ⟨_, ?_, 0, by omega, fun ⟨i, _, _, _, _, hi, _⟩ => absurd hi (by omega), rfl⟩ ?_
 ·exact (Less.of rfl (by repeat (first | exact trivial | refine ⟨⟨_, rfl, Wk.refl _⟩, ?_⟩ | refine ⟨⟨_, rfl, Wk.nil _ _⟩, ?_⟩ | refine ⟨⟨_, rfl, Wk.junk _⟩, ?_⟩)) (by repeat (first | exact trivial | refine ⟨rfl, ?_⟩)) rfl)
 clear hlt hk hkl hT
 clear k
 rintro s' ⟨k, hk, hD, rfl⟩
 by_cases hlt : k < len
 ·obtain ⟨x, hx⟩ := get_lt hl hlt
  refine AW.seq ?_
  refine AW.seq ?_
  refine AW.region ?_
  refine AL.rp rfl rfl (rp_move rfl rfl) ?_
  refine AL.rp rfl rfl (rp_move rfl rfl) ?_
  (first | (refine AL.rp rfl rfl (rp_len_map Tryd.underlying29 rfl rfl (by assumption)) ?_) | (refine AL.rp rfl rfl (rp_len_own Tryd.underlying29 rfl rfl) ?_) | (refine AL.rp rfl rfl (rp_len_sl Tryd.underlying29 rfl rfl) ?_) | (refine AL.rp rfl rfl (rp_len_nil Tryd.underlying29 rfl rfl) ?_) | (refine AL.rp rfl rfl (rp_len_str Tryd.underlying29 rfl rfl) ?_))
  (first | (refine AL.rp rfl rfl (rp_lssT rfl rfl rfl (by first | assumption | omega | (dsimp only; omega))) ?_) | (refine AL.rp rfl rfl (rp_lssF rfl rfl rfl (by first | assumption | omega | (dsimp only; omega))) ?_) | (refine AL.rp rfl rfl (rp_lss rfl rfl rfl) ?_))
  refine AL.nil ?_
  try simp only [thenS, S.put]
  refine AW.condT rfl ?_
  refine AW.skip ?_
  try simp only [thenS]
  refine AW.seq ?_
  refine AW.block ?_
  refine AW.seq ?_
  refine AW.region ?_
  refine AL.rp rfl rfl (rp_assign rfl rfl) ?_
  refine AL.nil ?_
  try simp only [thenS, S.put]
  refine AW.block ?_
  refine AW.loop (fun s' => ∃ j : Nat, j ≤ k ∧ (∀ (i : Nat) (y : Nm), i < j → l[i]? = some y → x.t ≠ y.t ∧ x.b ≠ y.b) ∧ s' = ⟨71, [(0, .d (nmsD l)), (5, .i k), (6, .i j)], [], []⟩) (fun s' => k - s'.nat 6) ⟨_, ?_, 0, by omega, fun i y hi => absurd hi (by omega), rfl⟩ ?_
  ·exact (Less.of rfl (by repeat (first | exact trivial | refine ⟨⟨_, rfl, Wk.refl _⟩, ?_⟩ | refine ⟨⟨_, rfl, Wk.nil _ _⟩, ?_⟩ | refine ⟨⟨_, rfl, Wk.junk _⟩, ?_⟩)) (by repeat (first | exact trivial | refine ⟨rfl, ?_⟩)) rfl)
  rintro s' ⟨j, hj, hno, rfl⟩
  by_cases hjk : j < k
  ·obtain ⟨y, hy⟩ := get_lt hl (show j < len by omega)
   by_cases ht : x.t = y.t
   ·rw [nmF_dup h100' hLab hTxt (dupP_get hjk hx hy (.inl ht))]
    refine AW.seq ?_
    refine AW.seq ?_
    refine AW.region ?_
    refine AL.rp rfl rfl (rp_move rfl rfl) ?_
    refine AL.rp rfl rfl (rp_move rfl rfl) ?_
    (first | (refine AL.rp rfl rfl (rp_lssT rfl rfl rfl (by first | assumption | omega | (dsimp only; omega))) ?_) | (refine AL.rp rfl rfl (rp_lssF rfl rfl rfl (by first | assumption | omega | (dsimp only; omega))) ?_) | (refine AL.rp rfl rfl (rp_lss rfl rfl rfl) ?_))
    refine AL.nil ?_
    try simp only [thenS, S.put]
    refine AW.condT rfl ?_
    refine AW.skip ?_
    try simp only [thenS]
    refine AW.seq ?_
    refine AW.block ?_
    refine AW.seq ?_
    refine AW.draw [(0, true), (1, true), (2, true), (3, true), (4, true), (5, true), (6, true), (7, true), (8, true), (9, true), (10, true), (11, true), (12, true), (13, true), (14, true), (15, true), (16, true), (17, true), (18, true), (19, true), (20, true), (21, true), (22, true), (23, true)] (fun i => !([] : List Nat).contains i) 24 (by kernel_rfl) (by kernel_rfl) rfl (by kernel_rfl) ?_
    refine AD1.rp rfl rfl rfl (fun _ _ h => h) (rp_move rfl rfl) ?_
    refine AD1.rp rfl rfl rfl (fun _ _ h => h) (rp_move rfl rfl) ?_
    (first | (refine AD1.rp rfl rfl rfl (fun _ _ h => h) (rp_index_map Tryd.underlying29 inf54 rfl rfl rfl rfl (by assumption)) ?_) | (refine AD1.rp rfl rfl rfl (fun _ _ h => h) (rp_index_own Tryd.underlying29 inf54 rfl rfl rfl rfl (by first | assumption | omega)) ?_) | (refine AD1.rp rfl rfl rfl (fun _ _ h => h) (rd_index_sl Tryd.underlying29 inf54 rfl rfl rfl rfl (by assumption)) ?_) | (refine AD1.rp rfl rfl rfl (fun _ _ h => h) (rp_index_own Tryd.underlying29 inf54 rfl rfl rfl (by omega) (by omega)) ?_))
    (first | (refine AD1.rp rfl rfl rfl (fun _ _ h => h) (rp_field_ref Tryd.underlying54 rfl rfl rfl inf9 (by decide) rfl) ?_) | (refine AD1.rp rfl rfl rfl (fun _ _ h => h) (rp_field_ad Tryd.underlying54 rfl rfl rfl inf9 (by decide) rfl) ?_))
    (first | (refine AD1.rd rfl rfl rfl (fun _ _ h => h) (rd_load_ref Tryd.underlying9 rfl rfl rfl rfl rfl rfl) ?_) | (refine AD1.rd rfl rfl rfl (fun _ _ h => h) (rd_load_ad Tryd.underlying9 rfl rfl rfl rfl) ?_) | (refine AD1.rd rfl rfl rfl (fun _ _ h => h) (rd_load_map Tryd.underlying9 rfl rfl rfl rfl rfl rfl (by assumption)) ?_) | (refine AD1.rd rfl rfl rfl (fun _ _ h => h) (rd_load_flat Tryd.underlying9 rfl rfl rfl rfl rfl rfl (fun _ => rfl) (by assumption) rfl) ?_))
    refine AD1.rp rfl rfl rfl (fun _ _ h => h) (rp_move rfl rfl) ?_
    refine AD1.rp rfl rfl rfl (fun _ _ h => h) (rp_move rfl rfl) ?_
    (first | (refine AD1.rp rfl rfl rfl (fun _ _ h => h) (rp_index_map Tryd.underlying29 inf54 rfl rfl rfl rfl (by assumption)) ?_) | (refine AD1.rp rfl rfl rfl (fun _ _ h => h) (rp_index_own Tryd.underlying29 inf54 rfl rfl rfl rfl (by first | assumption | omega)) ?_) | (refine AD1.rp rfl rfl rfl (fun _ _ h => h) (rd_index_sl Tryd.underlying29 inf54 rfl rfl rfl rfl (by assumption)) ?_) | (refine AD1.rp rfl rfl rfl (fun _ _ h => h) (rp_index_own Tryd.underlying29 inf54 rfl rfl rfl (by omega) (by omega)) ?_))
    (first | (refine AD1.rp rfl rfl rfl (fun _ _ h => h) (rp_field_ref Tryd.underlying54 rfl rfl rfl inf9 (by decide) rfl) ?_) | (refine AD1.rp rfl rfl rfl (fun _ _ h => h) (rp_field_ad Tryd.underlying54 rfl rfl rfl inf9 (by decide) rfl) ?_))
    (first | (refine AD1.rd rfl rfl rfl (fun _ _ h => h) (rd_load_ref Tryd.underlying9 rfl rfl rfl rfl rfl rfl) ?_) | (refine AD1.rd rfl rfl rfl (fun _ _ h => h) (rd_load_ad Tryd.underlying9 rfl rfl rfl rfl) ?_) | (refine AD1.rd rfl rfl rfl (fun _ _ h => h) (rd_load_map Tryd.underlying9 rfl rfl rfl rfl rfl rfl (by assumption)) ?_) | (refine AD1.rd rfl rfl rfl (fun _ _ h => h) (rd_load_flat Tryd.underlying9 rfl rfl rfl rfl rfl rfl (fun _ => rfl) (by assumption) rfl) ?_))
    (first | (refine AD1.rp rfl rfl rfl (fun _ _ h => h) (rp_eqlsT rfl rfl rfl (by assumption)) ?_) | (refine AD1.rp rfl rfl rfl (fun _ _ h => h) (rp_eqlsF rfl rfl rfl (by assumption)) ?_) | (refine AD1.rp rfl rfl rfl (fun _ _ h => h) (rp_eqls rfl rfl rfl) ?_))
    refine AD1.rp rfl rfl rfl (fun _ _ h => h) (rp_move rfl rfl) ?_
    (first | (refine AD1.noV rfl rfl rfl rfl rfl (fun _ _ h => h) ?_) | (refine AD1.noU rfl rfl ⟨_, rfl, rfl⟩ rfl (fun _ _ h => h) ?_) | (refine AD1.rpy rfl rfl rfl rfl (fun _ _ h => h) (rp_move rfl rfl) ?_))
    (first | (refine AD1.noV rfl rfl rfl rfl rfl (fun _ _ h => h) ?_) | (refine AD1.noU rfl rfl ⟨_, rfl, rfl⟩ rfl (fun _ _ h => h) ?_) | (refine AD1.rpy rfl rfl rfl rfl (fun _ _ h => h) (rp_move rfl rfl) ?_))
    (first | (refine AD1.noV rfl rfl rfl rfl rfl (fun _ _ h => h) ?_) | (refine AD1.noU rfl rfl ⟨_, rfl, rfl⟩ rfl (fun _ _ h => h) ?_) | (refine AD1.rpy rfl rfl rfl rfl (fun _ _ h => h) (rp_index_map Tryd.underlying29 inf54 rfl rfl rfl rfl (by assumption)) ?_) | (refine AD1.rpy rfl rfl rfl rfl (fun _ _ h => h) (rp_index_own Tryd.underlying29 inf54 rfl rfl rfl rfl (by first | assumption | omega)) ?_) | (refine AD1.rpy rfl rfl rfl rfl (fun _ _ h => h) (rd_index_sl Tryd.underlying29 inf54 rfl rfl rfl rfl (by assumption)) ?_) | (refine AD1.rpy rfl rfl rfl rfl (fun _ _ h => h) (rp_index_own Tryd.underlying29 inf54 rfl rfl rfl (by omega) (by omega)) ?_))
    (first | (refine AD1.noV rfl rfl rfl rfl rfl (fun _ _ h => h) ?_) | (refine AD1.noU rfl rfl ⟨_, rfl, rfl⟩ rfl (fun _ _ h => h) ?_) | (refine AD1.rpy rfl rfl rfl rfl (fun _ _ h => h) (rp_field_ref Tryd.underlying54 rfl rfl rfl inf3 (by decide) rfl) ?_) | (refine AD1.rpy rfl rfl rfl rfl (fun _ _ h => h) (rp_field_ad Tryd.underlying54 rfl rfl rfl inf3 (by decide) rfl) ?_))
    (first | (refine AD1.noV rfl rfl rfl rfl rfl (fun _ _ h => h) ?_) | (refine AD1.noU rfl rfl ⟨_, rfl, rfl⟩ rfl (fun _ _ h => h) ?_) | (refine AD1.rdy rfl rfl rfl rfl (fun _ _ h => h) (rd_load_ref Tryd.underlying3 rfl rfl rfl rfl rfl rfl) ?_) | (refine AD1.rdy rfl rfl rfl rfl (fun _ _ h => h) (rd_load_ad Tryd.underlying3 rfl rfl rfl rfl) ?_) | (refine AD1.rdy rfl rfl rfl rfl (fun _ _ h => h) (rd_load_map Tryd.underlying3 rfl rfl rfl rfl rfl rfl (by assumption)) ?_) | (refine AD1.rdy rfl rfl rfl rfl (fun _ _ h => h) (rd_load_flat Tryd.underlying3 rfl rfl rfl rfl rfl rfl (fun _ => rfl) (by assumption) rfl) ?_))
    (first | (refine AD1.noV rfl rfl rfl rfl rfl (fun _ _ h => h) ?_) | (refine AD1.noU rfl rfl ⟨_, rfl, rfl⟩ rfl (fun _ _ h => h) ?_) | (refine AD1.rpy rfl rfl rfl rfl (fun _ _ h => h) (rp_move rfl rfl) ?_))
    (first | (refine AD1.noV rfl rfl rfl rfl rfl (fun _ _ h => h) ?_) | (refine AD1.noU rfl rfl ⟨_, rfl, rfl⟩ rfl (fun _ _ h => h) ?_) | (refine AD1.rpy rfl rfl rfl rfl (fun _ _ h => h) (rp_move rfl rfl) ?_))
    (first | (refine AD1.noV rfl rfl rfl rfl rfl (fun _ _ h => h) ?_) | (refine AD1.noU rfl rfl ⟨_, rfl, rfl⟩ rfl (fun _ _ h => h) ?_) | (refine AD1.rpy rfl rfl rfl rfl (fun _ _ h => h) (rp_index_map Tryd.underlying29 inf54 rfl rfl rfl rfl (by assumption)) ?_) | (refine AD1.rpy rfl rfl rfl rfl (fun _ _ h => h) (rp_index_own Tryd.underlying29 inf54 rfl rfl rfl rfl (by first | assumption | omega)) ?_) | (refine AD1.rpy rfl rfl rfl rfl (fun _ _ h => h) (rd_index_sl Tryd.underlying29 inf54 rfl rfl rfl rfl (by assumption)) ?_) | (refine AD1.rpy rfl rfl rfl rfl (fun _ _ h => h) (rp_index_own Tryd.underlying29 inf54 rfl rfl rfl (by omega) (by omega)) ?_))
    (first | (refine AD1.noV rfl rfl rfl rfl rfl (fun _ _ h => h) ?_) | (refine AD1.noU rfl rfl ⟨_, rfl, rfl⟩ rfl (fun _ _ h => h) ?_) | (refine AD1.rpy rfl rfl rfl rfl (fun _ _ h => h) (rp_field_ref Tryd.underlying54 rfl rfl rfl inf3 (by decide) rfl) ?_) | (refine AD1.rpy rfl rfl rfl rfl (fun _ _ h => h) (rp_field_ad Tryd.underlying54 rfl rfl rfl inf3 (by decide) rfl) ?_))
    (first | (refine AD1.noV rfl rfl rfl rfl rfl (fun _ _ h => h) ?_) | (refine AD1.noU rfl rfl ⟨_, rfl, rfl⟩ rfl (fun _ _ h => h) ?_) | (refine AD1.rdy rfl rfl rfl rfl (fun _ _ h => h) (rd_load_ref Tryd.underlying3 rfl rfl rfl rfl rfl rfl) ?_) | (refine AD1.rdy rfl rfl rfl rfl (fun _ _ h => h) (rd_load_ad Tryd.underlying3 rfl rfl rfl rfl) ?_) | (refine AD1.rdy rfl rfl rfl rfl (fun _ _ h => h) (rd_load_map Tryd.underlying3 rfl rfl rfl rfl rfl rfl (by assumption)) ?_) | (refine AD1.rdy rfl rfl rfl rfl (fun _ _ h => h) (rd_load_flat Tryd.underlying3 rfl rfl rfl rfl rfl rfl (fun _ => rfl) (by assumption) rfl) ?_))
    (first | (refine AD1.noV rfl rfl rfl rfl rfl (fun _ _ h => h) ?_) | (refine AD1.noU rfl rfl ⟨_, rfl, rfl⟩ rfl (fun _ _ h => h) ?_) | (refine AD1.rpy rfl rfl rfl rfl (fun _ _ h => h) (rp_eqlT rfl rfl rfl (by first | assumption | omega | (dsimp only; omega))) ?_) | (refine AD1.rpy rfl rfl rfl rfl (fun _ _ h => h) (rp_eqlF rfl rfl rfl (by first | assumption | omega | (dsimp only; omega))) ?_) | (refine AD1.rpy rfl rfl rfl rfl (fun _ _ h => h) (rp_eql rfl rfl rfl) ?_))
    refine AD1.rp rfl rfl rfl (fun _ _ h => h) (rp_pick rfl rfl rfl) ?_
    refine AD1.nil ?_
    try simp only [thenS, S.put]
    refine AW.condT rfl ?_
    refine AW.seq ?_
    refine AW.region ?_
    refine AL.rp rfl rfl (rp_assign rfl rfl) ?_
    refine AL.nil ?_
    try simp only [thenS, S.put]
    refine AW.ret ?_
    exact ⟨[_], ⟨rfl, trivial⟩, rfl, by simp [tupOf, V.pure, V.has, V.hasL]⟩
   ·have ht2 : x.t.data.toList ≠ y.t.data.toList := fun h => ht (ByteArray.ext (Array.toList_inj.1 h))
    by_cases hbb : x.b = y.b
    ·rw [nmF_dup h100' hLab hTxt (dupP_get hjk hx hy (.inr hbb))]
     refine AW.seq ?_
     refine AW.seq ?_
     refine AW.region ?_
     refine AL.rp rfl rfl (rp_move rfl rfl) ?_
     refine AL.rp rfl rfl (rp_move rfl rfl) ?_
     (first | (refine AL.rp rfl rfl (rp_lssT rfl rfl rfl (by first | assumption | omega | (dsimp only; omega))) ?_) | (refine AL.rp rfl rfl (rp_lssF rfl rfl rfl (by first | assumption | omega | (dsimp only; omega))) ?_) | (refine AL.rp rfl rfl (rp_lss rfl rfl rfl) ?_))
     refine AL.nil ?_
     try simp only [thenS, S.put]
     refine AW.condT rfl ?_
     refine AW.skip ?_
     try simp only [thenS]
     refine AW.seq ?_
     refine AW.block ?_
     refine AW.seq ?_
     refine AW.draw [(0, true), (1, true), (2, true), (3, true), (4, true), (5, true), (6, true), (7, true), (8, true), (9, true), (10, true), (11, true), (12, true), (13, true), (14, true), (15, true), (16, true), (17, true), (18, true), (19, true), (20, true), (21, true), (22, true), (23, true)] (fun i => !([] : List Nat).contains i) 24 (by kernel_rfl) (by kernel_rfl) rfl (by kernel_rfl) ?_
     refine AD1.rp rfl rfl rfl (fun _ _ h => h) (rp_move rfl rfl) ?_
     refine AD1.rp rfl rfl rfl (fun _ _ h => h) (rp_move rfl rfl) ?_
     (first | (refine AD1.rp rfl rfl rfl (fun _ _ h => h) (rp_index_map Tryd.underlying29 inf54 rfl rfl rfl rfl (by assumption)) ?_) | (refine AD1.rp rfl rfl rfl (fun _ _ h => h) (rp_index_own Tryd.underlying29 inf54 rfl rfl rfl rfl (by first | assumption | omega)) ?_) | (refine AD1.rp rfl rfl rfl (fun _ _ h => h) (rd_index_sl Tryd.underlying29 inf54 rfl rfl rfl rfl (by assumption)) ?_) | (refine AD1.rp rfl rfl rfl (fun _ _ h => h) (rp_index_own Tryd.underlying29 inf54 rfl rfl rfl (by omega) (by omega)) ?_))
     (first | (refine AD1.rp rfl rfl rfl (fun _ _ h => h) (rp_field_ref Tryd.underlying54 rfl rfl rfl inf9 (by decide) rfl) ?_) | (refine AD1.rp rfl rfl rfl (fun _ _ h => h) (rp_field_ad Tryd.underlying54 rfl rfl rfl inf9 (by decide) rfl) ?_))
     (first | (refine AD1.rd rfl rfl rfl (fun _ _ h => h) (rd_load_ref Tryd.underlying9 rfl rfl rfl rfl rfl rfl) ?_) | (refine AD1.rd rfl rfl rfl (fun _ _ h => h) (rd_load_ad Tryd.underlying9 rfl rfl rfl rfl) ?_) | (refine AD1.rd rfl rfl rfl (fun _ _ h => h) (rd_load_map Tryd.underlying9 rfl rfl rfl rfl rfl rfl (by assumption)) ?_) | (refine AD1.rd rfl rfl rfl (fun _ _ h => h) (rd_load_flat Tryd.underlying9 rfl rfl rfl rfl rfl rfl (fun _ => rfl) (by assumption) rfl) ?_))
     refine AD1.rp rfl rfl rfl (fun _ _ h => h) (rp_move rfl rfl) ?_
     refine AD1.rp rfl rfl rfl (fun _ _ h => h) (rp_move rfl rfl) ?_
     (first | (refine AD1.rp rfl rfl rfl (fun _ _ h => h) (rp_index_map Tryd.underlying29 inf54 rfl rfl rfl rfl (by assumption)) ?_) | (refine AD1.rp rfl rfl rfl (fun _ _ h => h) (rp_index_own Tryd.underlying29 inf54 rfl rfl rfl rfl (by first | assumption | omega)) ?_) | (refine AD1.rp rfl rfl rfl (fun _ _ h => h) (rd_index_sl Tryd.underlying29 inf54 rfl rfl rfl rfl (by assumption)) ?_) | (refine AD1.rp rfl rfl rfl (fun _ _ h => h) (rp_index_own Tryd.underlying29 inf54 rfl rfl rfl (by omega) (by omega)) ?_))
     (first | (refine AD1.rp rfl rfl rfl (fun _ _ h => h) (rp_field_ref Tryd.underlying54 rfl rfl rfl inf9 (by decide) rfl) ?_) | (refine AD1.rp rfl rfl rfl (fun _ _ h => h) (rp_field_ad Tryd.underlying54 rfl rfl rfl inf9 (by decide) rfl) ?_))
     (first | (refine AD1.rd rfl rfl rfl (fun _ _ h => h) (rd_load_ref Tryd.underlying9 rfl rfl rfl rfl rfl rfl) ?_) | (refine AD1.rd rfl rfl rfl (fun _ _ h => h) (rd_load_ad Tryd.underlying9 rfl rfl rfl rfl) ?_) | (refine AD1.rd rfl rfl rfl (fun _ _ h => h) (rd_load_map Tryd.underlying9 rfl rfl rfl rfl rfl rfl (by assumption)) ?_) | (refine AD1.rd rfl rfl rfl (fun _ _ h => h) (rd_load_flat Tryd.underlying9 rfl rfl rfl rfl rfl rfl (fun _ => rfl) (by assumption) rfl) ?_))
     (first | (refine AD1.rp rfl rfl rfl (fun _ _ h => h) (rp_eqlsT rfl rfl rfl (by assumption)) ?_) | (refine AD1.rp rfl rfl rfl (fun _ _ h => h) (rp_eqlsF rfl rfl rfl (by assumption)) ?_) | (refine AD1.rp rfl rfl rfl (fun _ _ h => h) (rp_eqls rfl rfl rfl) ?_))
     refine AD1.rp rfl rfl rfl (fun _ _ h => h) (rp_move rfl rfl) ?_
     (first | (refine AD1.noV rfl rfl rfl rfl rfl (fun _ _ h => h) ?_) | (refine AD1.noU rfl rfl ⟨_, rfl, rfl⟩ rfl (fun _ _ h => h) ?_) | (refine AD1.rpy rfl rfl rfl rfl (fun _ _ h => h) (rp_move rfl rfl) ?_))
     (first | (refine AD1.noV rfl rfl rfl rfl rfl (fun _ _ h => h) ?_) | (refine AD1.noU rfl rfl ⟨_, rfl, rfl⟩ rfl (fun _ _ h => h) ?_) | (refine AD1.rpy rfl rfl rfl rfl (fun _ _ h => h) (rp_move rfl rfl) ?_))
     (first | (refine AD1.noV rfl rfl rfl rfl rfl (fun _ _ h => h) ?_) | (refine AD1.noU rfl rfl ⟨_, rfl, rfl⟩ rfl (fun _ _ h => h) ?_) | (refine AD1.rpy rfl rfl rfl rfl (fun _ _ h => h) (rp_index_map Tryd.underlying29 inf54 rfl rfl rfl rfl (by assumption)) ?_) | (refine AD1.rpy rfl rfl rfl rfl (fun _ _ h => h) (rp_index_own Tryd.underlying29 inf54 rfl rfl rfl rfl (by first | assumption | omega)) ?_) | (refine AD1.rpy rfl rfl rfl rfl (fun _ _ h => h) (rd_index_sl Tryd.underlying29 inf54 rfl rfl rfl rfl (by assumption)) ?_) | (refine AD1.rpy rfl rfl rfl rfl (fun _ _ h => h) (rp_index_own Tryd.underlying29 inf54 rfl rfl rfl (by omega) (by omega)) ?_))
     (first | (refine AD1.noV rfl rfl rfl rfl rfl (fun _ _ h => h) ?_) | (refine AD1.noU rfl rfl ⟨_, rfl, rfl⟩ rfl (fun _ _ h => h) ?_) | (refine AD1.rpy rfl rfl rfl rfl (fun _ _ h => h) (rp_field_ref Tryd.underlying54 rfl rfl rfl inf3 (by decide) rfl) ?_) | (refine AD1.rpy rfl rfl rfl rfl (fun _ _ h => h) (rp_field_ad Tryd.underlying54 rfl rfl rfl inf3 (by decide) rfl) ?_))
     (first | (refine AD1.noV rfl rfl rfl rfl rfl (fun _ _ h => h) ?_) | (refine AD1.noU rfl rfl ⟨_, rfl, rfl⟩ rfl (fun _ _ h => h) ?_) | (refine AD1.rdy rfl rfl rfl rfl (fun _ _ h => h) (rd_load_ref Tryd.underlying3 rfl rfl rfl rfl rfl rfl) ?_) | (refine AD1.rdy rfl rfl rfl rfl (fun _ _ h => h) (rd_load_ad Tryd.underlying3 rfl rfl rfl rfl) ?_) | (refine AD1.rdy rfl rfl rfl rfl (fun _ _ h => h) (rd_load_map Tryd.underlying3 rfl rfl rfl rfl rfl rfl (by assumption)) ?_) | (refine AD1.rdy rfl rfl rfl rfl (fun _ _ h => h) (rd_load_flat Tryd.underlying3 rfl rfl rfl rfl rfl rfl (fun _ => rfl) (by assumption) rfl) ?_))
     (first | (refine AD1.noV rfl rfl rfl rfl rfl (fun _ _ h => h) ?_) | (refine AD1.noU rfl rfl ⟨_, rfl, rfl⟩ rfl (fun _ _ h => h) ?_) | (refine AD1.rpy rfl rfl rfl rfl (fun _ _ h => h) (rp_move rfl rfl) ?_))
     (first | (refine AD1.noV rfl rfl rfl rfl rfl (fun _ _ h => h) ?_) | (refine AD1.noU rfl rfl ⟨_, rfl, rfl⟩ rfl (fun _ _ h => h) ?_) | (refine AD1.rpy rfl rfl rfl rfl (fun _ _ h => h) (rp_move rfl rfl) ?_))
     (first | (refine AD1.noV rfl rfl rfl rfl rfl (fun _ _ h => h) ?_) | (refine AD1.noU rfl rfl ⟨_, rfl, rfl⟩ rfl (fun _ _ h => h) ?_) | (refine AD1.rpy rfl rfl rfl rfl (fun _ _ h => h) (rp_index_map Tryd.underlying29 inf54 rfl rfl rfl rfl (by assumption)) ?_) | (refine AD1.rpy rfl rfl rfl rfl (fun _ _ h => h) (rp_index_own Tryd.underlying29 inf54 rfl rfl rfl rfl (by first | assumption | omega)) ?_) | (refine AD1.rpy rfl rfl rfl rfl (fun _ _ h => h) (rd_index_sl Tryd.underlying29 inf54 rfl rfl rfl rfl (by assumption)) ?_) | (refine AD1.rpy rfl rfl rfl rfl (fun _ _ h => h) (rp_index_own Tryd.underlying29 inf54 rfl rfl rfl (by omega) (by omega)) ?_))
     (first | (refine AD1.noV rfl rfl rfl rfl rfl (fun _ _ h => h) ?_) | (refine AD1.noU rfl rfl ⟨_, rfl, rfl⟩ rfl (fun _ _ h => h) ?_) | (refine AD1.rpy rfl rfl rfl rfl (fun _ _ h => h) (rp_field_ref Tryd.underlying54 rfl rfl rfl inf3 (by decide) rfl) ?_) | (refine AD1.rpy rfl rfl rfl rfl (fun _ _ h => h) (rp_field_ad Tryd.underlying54 rfl rfl rfl inf3 (by decide) rfl) ?_))
     (first | (refine AD1.noV rfl rfl rfl rfl rfl (fun _ _ h => h) ?_) | (refine AD1.noU rfl rfl ⟨_, rfl, rfl⟩ rfl (fun _ _ h => h) ?_) | (refine AD1.rdy rfl rfl rfl rfl (fun _ _ h => h) (rd_load_ref Tryd.underlying3 rfl rfl rfl rfl rfl rfl) ?_) | (refine AD1.rdy rfl rfl rfl rfl (fun _ _ h => h) (rd_load_ad Tryd.underlying3 rfl rfl rfl rfl) ?_) | (refine AD1.rdy rfl rfl rfl rfl (fun _ _ h => h) (rd_load_map Tryd.underlying3 rfl rfl rfl rfl rfl rfl (by assumption)) ?_) | (refine AD1.rdy rfl rfl rfl rfl (fun _ _ h => h) (rd_load_flat Tryd.underlying3 rfl rfl rfl rfl rfl rfl (fun _ => rfl) (by assumption) rfl) ?_))
     (first | (refine AD1.noV rfl rfl rfl rfl rfl (fun _ _ h => h) ?_) | (refine AD1.noU rfl rfl ⟨_, rfl, rfl⟩ rfl (fun _ _ h => h) ?_) | (refine AD1.rpy rfl rfl rfl rfl (fun _ _ h => h) (rp_eqlT rfl rfl rfl (by first | assumption | omega | (dsimp only; omega))) ?_) | (refine AD1.rpy rfl rfl rfl rfl (fun _ _ h => h) (rp_eqlF rfl rfl rfl (by first | assumption | omega | (dsimp only; omega))) ?_) | (refine AD1.rpy rfl rfl rfl rfl (fun _ _ h => h) (rp_eql rfl rfl rfl) ?_))
     refine AD1.rp rfl rfl rfl (fun _ _ h => h) (rp_pick rfl rfl rfl) ?_
     refine AD1.nil ?_
     try simp only [thenS, S.put]
     refine AW.condT rfl ?_
     refine AW.seq ?_
     refine AW.region ?_
     refine AL.rp rfl rfl (rp_assign rfl rfl) ?_
     refine AL.nil ?_
     try simp only [thenS, S.put]
     refine AW.ret ?_
     exact ⟨[_], ⟨rfl, trivial⟩, rfl, by simp [tupOf, V.pure, V.has, V.hasL]⟩
    ·skip
     refine AW.seq ?_
     refine AW.seq ?_
     refine AW.region ?_
     refine AL.rp rfl rfl (rp_move rfl rfl) ?_
     refine AL.rp rfl rfl (rp_move rfl rfl) ?_
     (first | (refine AL.rp rfl rfl (rp_lssT rfl rfl rfl (by first | assumption | omega | (dsimp only; omega))) ?_) | (refine AL.rp rfl rfl (rp_lssF rfl rfl rfl (by first | assumption | omega | (dsimp only; omega))) ?_) | (refine AL.rp rfl rfl (rp_lss rfl rfl rfl) ?_))
     refine AL.nil ?_
     try simp only [thenS, S.put]
     refine AW.condT rfl ?_
     refine AW.skip ?_
     try simp only [thenS]
     refine AW.seq ?_
     refine AW.block ?_
     refine AW.seq ?_
     refine AW.draw [(0, true), (1, true), (2, true), (3, true), (4, true), (5, true), (6, true), (7, true), (8, true), (9, true), (10, true), (11, true), (12, true), (13, true), (14, true), (15, true), (16, true), (17, true), (18, true), (19, true), (20, true), (21, true), (22, true), (23, true)] (fun i => !([] : List Nat).contains i) 24 (by kernel_rfl) (by kernel_rfl) rfl (by kernel_rfl) ?_
     refine AD1.rp rfl rfl rfl (fun _ _ h => h) (rp_move rfl rfl) ?_
     refine AD1.rp rfl rfl rfl (fun _ _ h => h) (rp_move rfl rfl) ?_
     (first | (refine AD1.rp rfl rfl rfl (fun _ _ h => h) (rp_index_map Tryd.underlying29 inf54 rfl rfl rfl rfl (by assumption)) ?_) | (refine AD1.rp rfl rfl rfl (fun _ _ h => h) (rp_index_own Tryd.underlying29 inf54 rfl rfl rfl rfl (by first | assumption | omega)) ?_) | (refine AD1.rp rfl rfl rfl (fun _ _ h => h) (rd_index_sl Tryd.underlying29 inf54 rfl rfl rfl rfl (by assumption)) ?_) | (refine AD1.rp rfl rfl rfl (fun _ _ h => h) (rp_index_own Tryd.underlying29 inf54 rfl rfl rfl (by omega) (by omega)) ?_))
     (first | (refine AD1.rp rfl rfl rfl (fun _ _ h => h) (rp_field_ref Tryd.underlying54 rfl rfl rfl inf9 (by decide) rfl) ?_) | (refine AD1.rp rfl rfl rfl (fun _ _ h => h) (rp_field_ad Tryd.underlying54 rfl rfl rfl inf9 (by decide) rfl) ?_))
     (first | (refine AD1.rd rfl rfl rfl (fun _ _ h => h) (rd_load_ref Tryd.underlying9 rfl rfl rfl rfl rfl rfl) ?_) | (refine AD1.rd rfl rfl rfl (fun _ _ h => h) (rd_load_ad Tryd.underlying9 rfl rfl rfl rfl) ?_) | (refine AD1.rd rfl rfl rfl (fun _ _ h => h) (rd_load_map Tryd.underlying9 rfl rfl rfl rfl rfl rfl (by assumption)) ?_) | (refine AD1.rd rfl rfl rfl (fun _ _ h => h) (rd_load_flat Tryd.underlying9 rfl rfl rfl rfl rfl rfl (fun _ => rfl) (by assumption) rfl) ?_))
     refine AD1.rp rfl rfl rfl (fun _ _ h => h) (rp_move rfl rfl) ?_
     refine AD1.rp rfl rfl rfl (fun _ _ h => h) (rp_move rfl rfl) ?_
     (first | (refine AD1.rp rfl rfl rfl (fun _ _ h => h) (rp_index_map Tryd.underlying29 inf54 rfl rfl rfl rfl (by assumption)) ?_) | (refine AD1.rp rfl rfl rfl (fun _ _ h => h) (rp_index_own Tryd.underlying29 inf54 rfl rfl rfl rfl (by first | assumption | omega)) ?_) | (refine AD1.rp rfl rfl rfl (fun _ _ h => h) (rd_index_sl Tryd.underlying29 inf54 rfl rfl rfl rfl (by assumption)) ?_) | (refine AD1.rp rfl rfl rfl (fun _ _ h => h) (rp_index_own Tryd.underlying29 inf54 rfl rfl rfl (by omega) (by omega)) ?_))
     (first | (refine AD1.rp rfl rfl rfl (fun _ _ h => h) (rp_field_ref Tryd.underlying54 rfl rfl rfl inf9 (by decide) rfl) ?_) | (refine AD1.rp rfl rfl rfl (fun _ _ h => h) (rp_field_ad Tryd.underlying54 rfl rfl rfl inf9 (by decide) rfl) ?_))
     (first | (refine AD1.rd rfl rfl rfl (fun _ _ h => h) (rd_load_ref Tryd.underlying9 rfl rfl rfl rfl rfl rfl) ?_) | (refine AD1.rd rfl rfl rfl (fun _ _ h => h) (rd_load_ad Tryd.underlying9 rfl rfl rfl rfl) ?_) | (refine AD1.rd rfl rfl rfl (fun _ _ h => h) (rd_load_map Tryd.underlying9 rfl rfl rfl rfl rfl rfl (by assumption)) ?_) | (refine AD1.rd rfl rfl rfl (fun _ _ h => h) (rd_load_flat Tryd.underlying9 rfl rfl rfl rfl rfl rfl (fun _ => rfl) (by assumption) rfl) ?_))
     (first | (refine AD1.rp rfl rfl rfl (fun _ _ h => h) (rp_eqlsT rfl rfl rfl (by assumption)) ?_) | (refine AD1.rp rfl rfl rfl (fun _ _ h => h) (rp_eqlsF rfl rfl rfl (by assumption)) ?_) | (refine AD1.rp rfl rfl rfl (fun _ _ h => h) (rp_eqls rfl rfl rfl) ?_))
     refine AD1.rp rfl rfl rfl (fun _ _ h => h) (rp_move rfl rfl) ?_
     (first | (refine AD1.noV rfl rfl rfl rfl rfl (fun _ _ h => h) ?_) | (refine AD1.noU rfl rfl ⟨_, rfl, rfl⟩ rfl (fun _ _ h => h) ?_) | (refine AD1.rpy rfl rfl rfl rfl (fun _ _ h => h) (rp_move rfl rfl) ?_))
     (first | (refine AD1.noV rfl rfl rfl rfl rfl (fun _ _ h => h) ?_) | (refine AD1.noU rfl rfl ⟨_, rfl, rfl⟩ rfl (fun _ _ h => h) ?_) | (refine AD1.rpy rfl rfl rfl rfl (fun _ _ h => h) (rp_move rfl rfl) ?_))
     (first | (refine AD1.noV rfl rfl rfl rfl rfl (fun _ _ h => h) ?_) | (refine AD1.noU rfl rfl ⟨_, rfl, rfl⟩ rfl (fun _ _ h => h) ?_) | (refine AD1.rpy rfl rfl rfl rfl (fun _ _ h => h) (rp_index_map Tryd.underlying29 inf54 rfl rfl rfl rfl (by assumption)) ?_) | (refine AD1.rpy rfl rfl rfl rfl (fun _ _ h => h) (rp_index_own Tryd.underlying29 inf54 rfl rfl rfl rfl (by first | assumption | omega)) ?_) | (refine AD1.rpy rfl rfl rfl rfl (fun _ _ h => h) (rd_index_sl Tryd.underlying29 inf54 rfl rfl rfl rfl (by assumption)) ?_) | (refine AD1.rpy rfl rfl rfl rfl (fun _ _ h => h) (rp_index_own Tryd.underlying29 inf54 rfl rfl rfl (by omega) (by omega)) ?_))
     (first | (refine AD1.noV rfl rfl rfl rfl rfl (fun _ _ h => h) ?_) | (refine AD1.noU rfl rfl ⟨_, rfl, rfl⟩ rfl (fun _ _ h => h) ?_) | (refine AD1.rpy rfl rfl rfl rfl (fun _ _ h => h) (rp_field_ref Tryd.underlying54 rfl rfl rfl inf3 (by decide) rfl) ?_) | (refine AD1.rpy rfl rfl rfl rfl (fun _ _ h => h) (rp_field_ad Tryd.underlying54 rfl rfl rfl inf3 (by decide) rfl) ?_))
     (first | (refine AD1.noV rfl rfl rfl rfl rfl (fun _ _ h => h) ?_) | (refine AD1.noU rfl rfl ⟨_, rfl, rfl⟩ rfl (fun _ _ h => h) ?_) | (refine AD1.rdy rfl rfl rfl rfl (fun _ _ h => h) (rd_load_ref Tryd.underlying3 rfl rfl rfl rfl rfl rfl) ?_) | (refine AD1.rdy rfl rfl rfl rfl (fun _ _ h => h) (rd_load_ad Tryd.underlying3 rfl rfl rfl rfl) ?_) | (refine AD1.rdy rfl rfl rfl rfl (fun _ _ h => h) (rd_load_map Tryd.underlying3 rfl rfl rfl rfl rfl rfl (by assumption)) ?_) | (refine AD1.rdy rfl rfl rfl rfl (fun _ _ h => h) (rd_load_flat Tryd.underlying3 rfl rfl rfl rfl rfl rfl (fun _ => rfl) (by assumption) rfl) ?_))
     (first | (refine AD1.noV rfl rfl rfl rfl rfl (fun _ _ h => h) ?_) | (refine AD1.noU rfl rfl ⟨_, rfl, rfl⟩ rfl (fun _ _ h => h) ?_) | (refine AD1.rpy rfl rfl rfl rfl (fun _ _ h => h) (rp_move rfl rfl) ?_))
     (first | (refine AD1.noV rfl rfl rfl rfl rfl (fun _ _ h => h) ?_) | (refine AD1.noU rfl rfl ⟨_, rfl, rfl⟩ rfl (fun _ _ h => h) ?_) | (refine AD1.rpy rfl rfl rfl rfl (fun _ _ h => h) (rp_move rfl rfl) ?_))
     (first | (refine AD1.noV rfl rfl rfl rfl rfl (fun _ _ h => h) ?_) | (refine AD1.noU rfl rfl ⟨_, rfl, rfl⟩ rfl (fun _ _ h => h) ?_) | (refine AD1.rpy rfl rfl rfl rfl (fun _ _ h => h) (rp_index_map Tryd.underlying29 inf54 rfl rfl rfl rfl (by assumption)) ?_) | (refine AD1.rpy rfl rfl rfl rfl (fun _ _ h => h) (rp_index_own Tryd.underlying29 inf54 rfl rfl rfl rfl (by first | assumption | omega)) ?_) | (refine AD1.rpy rfl rfl rfl rfl (fun _ _ h => h) (rd_index_sl Tryd.underlying29 inf54 rfl rfl rfl rfl (by assumption)) ?_) | (refine AD1.rpy rfl rfl rfl rfl (fun _ _ h => h) (rp_index_own Tryd.underlying29 inf54 rfl rfl rfl (by omega) (by omega)) ?_))
     (first | (refine AD1.noV rfl rfl rfl rfl rfl (fun _ _ h => h) ?_) | (refine AD1.noU rfl rfl ⟨_, rfl, rfl⟩ rfl (fun _ _ h => h) ?_) | (refine AD1.rpy rfl rfl rfl rfl (fun _ _ h => h) (rp_field_ref Tryd.underlying54 rfl rfl rfl inf3 (by decide) rfl) ?_) | (refine AD1.rpy rfl rfl rfl rfl (fun _ _ h => h) (rp_field_ad Tryd.underlying54 rfl rfl rfl inf3 (by decide) rfl) ?_))
     (first | (refine AD1.noV rfl rfl rfl rfl rfl (fun _ _ h => h) ?_) | (refine AD1.noU rfl rfl ⟨_, rfl, rfl⟩ rfl (fun _ _ h => h) ?_) | (refine AD1.rdy rfl rfl rfl rfl (fun _ _ h => h) (rd_load_ref Tryd.underlying3 rfl rfl rfl rfl rfl rfl) ?_) | (refine AD1.rdy rfl rfl rfl rfl (fun _ _ h => h) (rd_load_ad Tryd.underlying3 rfl rfl rfl rfl) ?_) | (refine AD1.rdy rfl rfl rfl rfl (fun _ _ h => h) (rd_load_map Tryd.underlying3 rfl rfl rfl rfl rfl rfl (by assumption)) ?_) | (refine AD1.rdy rfl rfl rfl rfl (fun _ _ h => h) (rd_load_flat Tryd.underlying3 rfl rfl rfl rfl rfl rfl (fun _ => rfl) (by assumption) rfl) ?_))
     (first | (refine AD1.noV rfl rfl rfl rfl rfl (fun _ _ h => h) ?_) | (refine AD1.noU rfl rfl ⟨_, rfl, rfl⟩ rfl (fun _ _ h => h) ?_) | (refine AD1.rpy rfl rfl rfl rfl (fun _ _ h => h) (rp_eqlT rfl rfl rfl (by first | assumption | omega | (dsimp only; omega))) ?_) | (refine AD1.rpy rfl rfl rfl rfl (fun _ _ h => h) (rp_eqlF rfl rfl rfl (by first | assumption | omega | (dsimp only; omega))) ?_) | (refine AD1.rpy rfl rfl rfl rfl (fun _ _ h => h) (rp_eql rfl rfl rfl) ?_))
     refine AD1.rp rfl rfl rfl (fun _ _ h => h) (rp_pick rfl rfl rfl) ?_
     refine AD1.nil ?_
     try simp only [thenS, S.put]
     refine AW.condF rfl ?_
     refine AW.skip ?_
     try simp only [thenS]
     refine AW.region ?_
     refine AL.rp rfl rfl (rp_move rfl rfl) ?_
     refine AL.rp rfl rfl (rp_add rfl rfl rfl (by first | omega | (dsimp only; omega))) ?_
     refine AL.rp rfl rfl (rp_assign rfl rfl) ?_
     refine AL.nil ?_
     try simp only [thenS, S.put]
     refine ⟨_, ?_, ⟨j + 1, by omega, fun i z hi hz => ?_, rfl⟩, ?_⟩
     ·exact (Less.of rfl (by repeat (first | exact trivial | refine ⟨⟨_, rfl, Wk.refl _⟩, ?_⟩ | refine ⟨⟨_, rfl, Wk.nil _ _⟩, ?_⟩ | refine ⟨⟨_, rfl, Wk.junk _⟩, ?_⟩)) (by repeat (first | exact trivial | refine ⟨rfl, ?_⟩)) rfl)
     ·by_cases e : i = j
      ·subst e
       rw [hy] at hz
       cases hz
       exact ⟨ht, hbb⟩
      ·exact hno i z (by omega) hz
     ·simp [S.nat, fnd]; omega
  ·obtain rfl : j = k := by omega
   have hD2 := dupP_snoc hD hx hno
   refine AW.seq ?_
   refine AW.seq ?_
   refine AW.region ?_
   refine AL.rp rfl rfl (rp_move rfl rfl) ?_
   refine AL.rp rfl rfl (rp_move rfl rfl) ?_
   (first | (refine AL.rp rfl rfl (rp_lssT rfl rfl rfl (by first | assumption | omega | (dsimp only; omega))) ?_) | (refine AL.rp rfl rfl (rp_lssF rfl rfl rfl (by first | assumption | omega | (dsimp only; omega))) ?_) | (refine AL.rp rfl rfl (rp_lss rfl rfl rfl) ?_))
   refine AL.nil ?_
   try simp only [thenS, S.put]
   refine AW.condF rfl ?_
   refine AW.exit ?_
   try simp only [thenS, inBlockS, ↓reduceIte, Nat.reduceEqDiff]
   refine AW.region ?_
   refine AL.rp rfl rfl (rp_move rfl rfl) ?_
   refine AL.rp rfl rfl (rp_add rfl rfl rfl (by first | omega | (dsimp only; omega))) ?_
   refine AL.rp rfl rfl (rp_assign rfl rfl) ?_
   refine AL.nil ?_
   try simp only [thenS, S.put]
   refine ⟨_, ?_, ⟨j + 1, by omega, hD2, rfl⟩, ?_⟩
   ·exact (Less.of rfl (by repeat (first | exact trivial | refine ⟨⟨_, rfl, Wk.refl _⟩, ?_⟩ | refine ⟨⟨_, rfl, Wk.nil _ _⟩, ?_⟩ | refine ⟨⟨_, rfl, Wk.junk _⟩, ?_⟩)) (by repeat (first | exact trivial | refine ⟨rfl, ?_⟩)) rfl)
   ·simp [S.nat, fnd]; omega
 ·have hkl : k = len := by omega
  rw [nmF_ok h100' hLab hTxt (by rw [hl, ← hkl]; exact hD)]
  refine AW.seq ?_
  refine AW.seq ?_
  refine AW.region ?_
  refine AL.rp rfl rfl (rp_move rfl rfl) ?_
  refine AL.rp rfl rfl (rp_move rfl rfl) ?_
  (first | (refine AL.rp rfl rfl (rp_len_map Tryd.underlying29 rfl rfl (by assumption)) ?_) | (refine AL.rp rfl rfl (rp_len_own Tryd.underlying29 rfl rfl) ?_) | (refine AL.rp rfl rfl (rp_len_sl Tryd.underlying29 rfl rfl) ?_) | (refine AL.rp rfl rfl (rp_len_nil Tryd.underlying29 rfl rfl) ?_) | (refine AL.rp rfl rfl (rp_len_str Tryd.underlying29 rfl rfl) ?_))
  (first | (refine AL.rp rfl rfl (rp_lssT rfl rfl rfl (by first | assumption | omega | (dsimp only; omega))) ?_) | (refine AL.rp rfl rfl (rp_lssF rfl rfl rfl (by first | assumption | omega | (dsimp only; omega))) ?_) | (refine AL.rp rfl rfl (rp_lss rfl rfl rfl) ?_))
  refine AL.nil ?_
  try simp only [thenS, S.put]
  refine AW.condF rfl ?_
  refine AW.exit ?_
  try simp only [thenS, inBlockS, ↓reduceIte, Nat.reduceEqDiff]
  refine AW.seq ?_
  refine AW.region ?_
  refine AL.rp rfl rfl (rp_assign rfl rfl) ?_
  refine AL.nil ?_
  try simp only [thenS, S.put]
  refine AW.ret ?_
  exact ⟨[_], ⟨rfl, trivial⟩, rfl, by simp [tupOf, V.pure, V.has, V.hasL]⟩
end Go.Proofs.YthflidjnlnmbiaaDoor

namespace Go.Proofs.YthflidjnlnmbiaaDoor
open Go.RowKit
set_option linter.unusedSimpArgs false
set_option linter.unusedVariables false
set_option maxRecDepth 100000

theorem am_word (s : ByteArray) : Fn Tryd.prog 47 [.s s] (fun v => v = .b (nmB s.data.toList)) :=
 Fn.ofCalls (xs := [.string s]) (y := .bool (nmB s.data.toList)) (fun w => word_call s w) (fun _ _ _ _ h => reps_s1 h) (fun _ _ _ => .d _ _ (.p _)) (by simp [V.pure, V.has, V.hasL])
/-- The index of a table, made. -/
def xM (l : List Nm) : List (Nat × Row) := xH l 1 0 (.d (.mp (smap (bldM Nm.t l l.length)))) (.d (.mp (imap (bldM Nm.b l l.length))))
theorem pc_made (l : List Nm) (hb : l.length * 24 ≤ 140737488355328) (ks : List D) (hks : V.mpsL (ks.map V.d) = false) : PC Tryd.prog 46 [.ref 800 0] [(800, idxR l 0 0 nomap nomap)] (ks.map V.d) (fun v H' K' => v = .ref 800 0 ∧ K' = ks.map V.d ∧ H' = xM l) := by
 refine PC.intro (n := 9) ⟨Tryd.func46, rfl, rfl, rfl, rfl⟩ (by simp) fun w0 out kx => ?_
 simp only [enum, idxR, nomap]
 refine AW.seq ?_
 refine AW.region ?_
 refine AL.sm rfl (sm_box 801 rfl rfl rfl (by first | rfl | simp [S.clean, S.put, S.newObj, S.forget, V.has, V.hasL, junkIf, setL, V.cs, hasL_i, hasL_vd, hasL_vdt, hasL_d, hasL_b, hasL_s, hasL_n, hasL_rep, hasL_flat, hasL_append, -List.map_set]) rfl) ?_
 refine AL.rp rfl rfl (rp_assign rfl rfl) ?_
 refine AL.nil ?_
 try simp only [thenS, S.put, S.newObj, setL, V.cs, List.length_cons, List.length_nil, List.take_succ_cons, List.take_zero, List.drop_succ_cons, List.drop_zero, List.drop_nil, List.nil_append, List.cons_append, List.append_nil, Nat.zero_add, Nat.reduceAdd, List.map_cons, List.map_nil, List.set_cons_zero, List.set_cons_succ, enum]
 refine AW.seq ?_
 refine AW.region ?_
 (first | (refine AL.rd rfl rfl (rd_load_ref Tryd.underlying75 rfl rfl rfl rfl rfl rfl) ?_) | (refine AL.rd rfl rfl (rd_load_ad Tryd.underlying75 rfl rfl rfl rfl) ?_) | (refine AL.rd rfl rfl (rd_load_map Tryd.underlying75 rfl rfl rfl rfl rfl rfl (by assumption)) ?_) | (refine AL.rd rfl rfl (rd_load_flat Tryd.underlying75 rfl rfl rfl rfl rfl rfl (fun _ => rfl) (by assumption) rfl) ?_))
 (first | (refine AL.rp rfl rfl (rp_nilCheck rfl rfl) ?_) | (refine AL.rp rfl rfl (rp_nilCheck_ad rfl rfl) ?_))
 (first | (refine AL.rp rfl rfl (rp_field_ref Tryd.underlying91 rfl rfl rfl inf87 (by decide) rfl) ?_) | (refine AL.rp rfl rfl (rp_field_ad Tryd.underlying91 rfl rfl rfl inf87 (by decide) rfl) ?_))
 refine AL.rp rfl rfl (rp_func (vs := [_]) rfl rfl) ?_
 try simp only [S.put, S.newObj, setL, V.cs, List.length_cons, List.length_nil, List.take_succ_cons, List.take_zero, List.drop_succ_cons, List.drop_zero, List.drop_nil, List.nil_append, List.cons_append, List.append_nil, Nat.zero_add, Nat.reduceAdd]
 refine AL.pc [1] (ts := [_]) (args := [_, _]) (post := ?pc1) ?hc1 rfl rfl rfl rfl rfl rfl rfl rfl rfl ?_
 case hc1 => (refine pc_once l hb ks hks <;> first | rfl | (simp [V.lowL, V.low]; done))
 rintro _ _ _ ⟨rfl, rfl, rfl⟩
 simp only [back, S.put, List.cons_append, List.nil_append, List.zip_cons_cons, List.zip_nil_left, List.drop_succ_cons, List.drop_zero, List.length_cons, List.length_nil, Nat.zero_add, Nat.reduceAdd]
 refine AL.nil ?_
 try simp only [thenS, S.put]
 refine AW.seq ?_
 refine AW.region ?_
 (first | (refine AL.rd rfl rfl (rd_load_ref Tryd.underlying75 rfl rfl rfl rfl rfl rfl) ?_) | (refine AL.rd rfl rfl (rd_load_ad Tryd.underlying75 rfl rfl rfl rfl) ?_) | (refine AL.rd rfl rfl (rd_load_map Tryd.underlying75 rfl rfl rfl rfl rfl rfl (by assumption)) ?_) | (refine AL.rd rfl rfl (rd_load_flat Tryd.underlying75 rfl rfl rfl rfl rfl rfl (fun _ => rfl) (by assumption) rfl) ?_))
 refine AL.rp rfl rfl (rp_assign rfl rfl) ?_
 refine AL.nil ?_
 try simp only [thenS, S.put]
 refine AW.ret ?_
 exact ⟨[_], ⟨rfl, trivial⟩, rfl, rfl, rfl⟩

set_option maxHeartbeats 1000000 in
theorem am_NCheck (l : List Nm) : Fn Tryd.prog 26 [.d (nmsD l)] (fun v => v = .i (nmF l)) := by
 refine Fn.sl 0 rfl fun hb => ?_
 obtain ⟨len, hl⟩ : ∃ n, l.length = n := ⟨_, rfl⟩
 rw [List.length_map] at hb
 have hb2 : len * 24 ≤ 140737488355328 := by rw [← hl]; exact hb
 refine Fn.intro (n := 59) ⟨Tryd.func26, rfl, rfl, rfl, rfl⟩ (by simp [V.pure, V.has, V.hasL]) (by simp) fun w0 out => ?_
 by_cases h100 : 100 < len
 ·rw [nmF_size (by rw [hl]; exact h100)]
  refine AW.seq ?_
  refine AW.region ?_
  refine AL.rp rfl rfl (rp_assign rfl rfl) ?_
  refine AL.nil ?_
  try simp only [thenS, S.put, enum, List.nil_append, List.cons_append, List.append_nil, Nat.zero_add, Nat.reduceAdd]
  refine AW.seq ?_
  refine AW.seq ?_
  refine AW.region ?_
  refine AL.rp rfl rfl (rp_move rfl rfl) ?_
  (first | (refine AL.rp rfl rfl (rp_len_map Tryd.underlying29 rfl rfl (by assumption)) ?_) | (refine AL.rp rfl rfl (rp_len_own Tryd.underlying29 rfl rfl) ?_) | (refine AL.rp rfl rfl (rp_len_sl Tryd.underlying29 rfl rfl) ?_) | (refine AL.rp rfl rfl (rp_len_nil Tryd.underlying29 rfl rfl) ?_) | (refine AL.rp rfl rfl (rp_len_str Tryd.underlying29 rfl rfl) ?_))
  (first | (refine AL.rp rfl rfl (rp_gtrT rfl rfl rfl (by first | assumption | omega | (dsimp only; omega))) ?_) | (refine AL.rp rfl rfl (rp_gtrF rfl rfl rfl (by first | assumption | omega | (dsimp only; omega))) ?_) | (refine AL.rp rfl rfl (rp_gtr rfl rfl rfl) ?_))
  refine AL.nil ?_
  try simp only [thenS, S.put]
  refine AW.condT rfl ?_
  refine AW.seq ?_
  refine AW.region ?_
  refine AL.rp rfl rfl (rp_assign rfl rfl) ?_
  refine AL.nil ?_
  try simp only [thenS, S.put]
  refine AW.ret ?_
  exact ⟨[_], ⟨rfl, trivial⟩, rfl, by simp [tupOf, V.pure, V.has, V.hasL]⟩
 have h100' : ¬ 100 < l.length := by rw [hl]; exact h100
 have hnm : V.mpsL ([nmsD l].map V.d) = false := by simp [V.mpsL, V.mps, D.mps, nmsD, mpsR_nms]
 have hmk := pc_made l hb [nmsD l] hnm
 refine AW.seq ?_
 refine AW.region ?_
 refine AL.rp rfl rfl (rp_assign rfl rfl) ?_
 refine AL.nil ?_
 try simp only [thenS, S.put, enum, List.nil_append, List.cons_append, List.append_nil, Nat.zero_add, Nat.reduceAdd]
 refine AW.seq ?_
 refine AW.seq ?_
 refine AW.region ?_
 refine AL.rp rfl rfl (rp_move rfl rfl) ?_
 (first | (refine AL.rp rfl rfl (rp_len_map Tryd.underlying29 rfl rfl (by assumption)) ?_) | (refine AL.rp rfl rfl (rp_len_own Tryd.underlying29 rfl rfl) ?_) | (refine AL.rp rfl rfl (rp_len_sl Tryd.underlying29 rfl rfl) ?_) | (refine AL.rp rfl rfl (rp_len_nil Tryd.underlying29 rfl rfl) ?_) | (refine AL.rp rfl rfl (rp_len_str Tryd.underlying29 rfl rfl) ?_))
 (first | (refine AL.rp rfl rfl (rp_gtrT rfl rfl rfl (by first | assumption | omega | (dsimp only; omega))) ?_) | (refine AL.rp rfl rfl (rp_gtrF rfl rfl rfl (by first | assumption | omega | (dsimp only; omega))) ?_) | (refine AL.rp rfl rfl (rp_gtr rfl rfl rfl) ?_))
 refine AL.nil ?_
 try simp only [thenS, S.put]
 refine AW.condF rfl ?_
 refine AW.skip ?_
 try simp only [thenS]
 refine AW.seq ?_
 refine AW.region ?_
 refine AL.rp rfl rfl (rp_move rfl rfl) ?_
 refine AL.rp rfl rfl (rp_build (vs := [(0, _)]) (zs := [.d (.p (.slice none 0 0)), .d (.p (.int .u32 0)), .d (.p (.int .i32 0)), .d (.p (.int .u32 0)), .d (.p (.map none)), .d (.p (.map none))]) pl91 inf91 rfl rfl rfl rfl) ?_
 refine AL.sm rfl (sm_box 800 rfl rfl rfl (by first | rfl | simp [S.clean, S.put, S.newObj, S.forget, V.has, V.hasL, junkIf, setL, V.cs, hasL_i, hasL_vd, hasL_vdt, hasL_d, hasL_b, hasL_s, hasL_n, hasL_rep, hasL_flat, hasL_append, -List.map_set]) rfl) ?_
 try simp only [S.put, S.newObj, setL, V.cs, List.length_cons, List.length_nil, List.take_succ_cons, List.take_zero, List.drop_succ_cons, List.drop_zero, List.drop_nil, List.nil_append, List.cons_append, List.append_nil, Nat.zero_add, Nat.reduceAdd]
 refine AL.pc [0] (ts := [_]) (args := [_]) (post := ?pc2) ?hc2 rfl rfl rfl rfl rfl rfl rfl rfl rfl ?_
 case hc2 => (refine hmk <;> first | rfl | (simp [V.lowL, V.low]; done))
 rintro _ _ _ ⟨rfl, rfl, rfl⟩
 simp only [back, S.put, List.cons_append, List.nil_append, List.zip_cons_cons, List.zip_nil_left, List.drop_succ_cons, List.drop_zero, List.length_cons, List.length_nil, Nat.zero_add, Nat.reduceAdd]
 refine AL.rp rfl rfl (rp_assign rfl rfl) ?_
 refine AL.nil ?_
 try simp only [thenS, S.put, S.newObj, setL, V.cs, List.length_cons, List.length_nil, List.take_succ_cons, List.take_zero, List.drop_succ_cons, List.drop_zero, List.drop_nil, List.nil_append, List.cons_append, List.append_nil, Nat.zero_add, Nat.reduceAdd, List.map_cons, List.map_nil, List.set_cons_zero, List.set_cons_succ]
 refine AW.seq ?_
 refine AW.seq ?_
 refine AW.region ?_
 refine AL.rp rfl rfl (rp_move rfl rfl) ?_
 (first | (refine AL.rp rfl rfl (rp_len_map Tryd.underlying29 rfl rfl (by assumption)) ?_) | (refine AL.rp rfl rfl (rp_len_own Tryd.underlying29 rfl rfl) ?_) | (refine AL.rp rfl rfl (rp_len_sl Tryd.underlying29 rfl rfl) ?_) | (refine AL.rp rfl rfl (rp_len_nil Tryd.underlying29 rfl rfl) ?_) | (refine AL.rp rfl rfl (rp_len_str Tryd.underlying29 rfl rfl) ?_))
 refine AL.rp rfl rfl (rp_move rfl rfl) ?_
 refine AL.nil ?_
 try simp only [thenS, S.put]
 refine AW.block ?_
 unfold xM xH idxR
 refine AW.loop (fun s' => ∃ k : Nat, k ≤ len ∧ labP l k ∧ s' = ⟨59, [(0, .d (nmsD l)), (3, .ref 800 0), (15, .d (nmsD l)), (16, .i len), (17, .i k)], xM l, []⟩) (fun s' => len - s'.nat 17) ⟨_, ?_, 0, by omega, fun i x hi => absurd hi (by omega), rfl⟩ ?_
 ·exact (Less.of rfl (by repeat (first | exact trivial | refine ⟨⟨_, rfl, Wk.refl _⟩, ?_⟩ | refine ⟨⟨_, rfl, Wk.nil _ _⟩, ?_⟩ | refine ⟨⟨_, rfl, Wk.junk _⟩, ?_⟩)) (by repeat (first | exact trivial | refine ⟨rfl, ?_⟩)) rfl)
 rintro s' ⟨k, hk, hP, rfl⟩
 unfold xM xH idxR
 by_cases hlt : k < len
 ·obtain ⟨x, hx⟩ := get_lt hl hlt
  by_cases hok1 : x.b < 1
  ·rw [nmF_lab h100' (labP_not hx (by omega))]
   refine AW.seq ?_
   refine AW.region ?_
   (first | (refine AL.rp rfl rfl (rp_lssT rfl rfl rfl (by first | assumption | omega | (dsimp only; omega))) ?_) | (refine AL.rp rfl rfl (rp_lssF rfl rfl rfl (by first | assumption | omega | (dsimp only; omega))) ?_) | (refine AL.rp rfl rfl (rp_lss rfl rfl rfl) ?_))
   refine AL.nil ?_
   try simp only [thenS, S.put]
   refine AW.seq ?_
   refine AW.condT rfl ?_
   refine AW.skip ?_
   try simp only [thenS]
   refine AW.seq ?_
   refine AW.block ?_
   refine AW.seq ?_
   refine AW.region ?_
   (first | (refine AL.rp rfl rfl (rp_index_map Tryd.underlying29 inf54 rfl rfl rfl rfl (by assumption)) ?_) | (refine AL.rp rfl rfl (rp_index_own Tryd.underlying29 inf54 rfl rfl rfl rfl (by first | assumption | omega)) ?_) | (refine AL.rp rfl rfl (rd_index_sl Tryd.underlying29 inf54 rfl rfl rfl rfl (by assumption)) ?_) | (refine AL.rp rfl rfl (rp_index_own Tryd.underlying29 inf54 rfl rfl rfl (by omega) (by omega)) ?_))
   (first | (refine AL.rd rfl rfl (rd_loads_ref Tryd.underlying54 rfl inf54 rfl rfl rfl rfl rfl rfl) ?_) | (refine AL.rd rfl rfl (rd_loads_ad Tryd.underlying54 rfl inf54 rfl rfl rfl rfl) ?_))
   refine AL.sm rfl (sm_alloc (l := [.d (.p (.string ⟨#[]⟩)), .d (.p (.int .i64 0))]) 5 inf54 rfl (by first | rfl | simp [S.clean, S.put, S.newObj, S.forget, V.has, V.hasL, junkIf, setL, V.cs, hasL_i, hasL_vd, hasL_vdt, hasL_d, hasL_b, hasL_s, hasL_n, hasL_rep, hasL_flat, hasL_append, -List.map_set]) rfl rfl) ?_
   refine AL.st rfl (st_store_any inf54 rfl rfl rfl rfl rfl rfl rfl rfl (by first | decide | (simp; done) | (simp; omega)) rfl) ?_
   refine AL.nil ?_
   try simp only [thenS, S.put, S.newObj, setL, V.cs, List.length_cons, List.length_nil, List.take_succ_cons, List.take_zero, List.drop_succ_cons, List.drop_zero, List.drop_nil, List.nil_append, List.cons_append, List.append_nil, Nat.zero_add, Nat.reduceAdd, List.map_cons, List.map_nil, List.set_cons_zero, List.set_cons_succ]
   refine AW.seq ?_
   refine AW.region ?_
   (first | (refine AL.rp rfl rfl (rp_field_ref Tryd.underlying54 rfl rfl rfl inf3 (by decide) rfl) ?_) | (refine AL.rp rfl rfl (rp_field_ad Tryd.underlying54 rfl rfl rfl inf3 (by decide) rfl) ?_))
   (first | (refine AL.rd rfl rfl (rd_load_ref Tryd.underlying3 rfl rfl rfl rfl rfl rfl) ?_) | (refine AL.rd rfl rfl (rd_load_ad Tryd.underlying3 rfl rfl rfl rfl) ?_) | (refine AL.rd rfl rfl (rd_load_map Tryd.underlying3 rfl rfl rfl rfl rfl rfl (by assumption)) ?_) | (refine AL.rd rfl rfl (rd_load_flat Tryd.underlying3 rfl rfl rfl rfl rfl rfl (fun _ => rfl) (by assumption) rfl) ?_))
   (first | (refine AL.rp rfl rfl (rp_lssT rfl rfl rfl (by first | assumption | omega | (dsimp only; omega))) ?_) | (refine AL.rp rfl rfl (rp_lssF rfl rfl rfl (by first | assumption | omega | (dsimp only; omega))) ?_) | (refine AL.rp rfl rfl (rp_lss rfl rfl rfl) ?_))
   refine AL.rp rfl rfl (rp_move rfl rfl) ?_
   (first | (refine AL.noV rfl rfl rfl rfl ?_) | (refine AL.noU rfl ⟨_, rfl, rfl⟩ rfl ?_) | (refine AL.rpy rfl rfl rfl (rp_field_ref Tryd.underlying54 rfl rfl rfl inf3 (by decide) rfl) ?_) | (refine AL.rpy rfl rfl rfl (rp_field_ad Tryd.underlying54 rfl rfl rfl inf3 (by decide) rfl) ?_))
   (first | (refine AL.noV rfl rfl rfl rfl ?_) | (refine AL.noU rfl ⟨_, rfl, rfl⟩ rfl ?_) | (refine AL.rdy rfl rfl rfl (rd_load_ref Tryd.underlying3 rfl rfl rfl rfl rfl rfl) ?_) | (refine AL.rdy rfl rfl rfl (rd_load_ad Tryd.underlying3 rfl rfl rfl rfl) ?_) | (refine AL.rdy rfl rfl rfl (rd_load_map Tryd.underlying3 rfl rfl rfl rfl rfl rfl (by assumption)) ?_) | (refine AL.rdy rfl rfl rfl (rd_load_flat Tryd.underlying3 rfl rfl rfl rfl rfl rfl (fun _ => rfl) (by assumption) rfl) ?_))
   (first | (refine AL.noV rfl rfl rfl rfl ?_) | (refine AL.noU rfl ⟨_, rfl, rfl⟩ rfl ?_) | (refine AL.rpy rfl rfl rfl (rp_gtrT rfl rfl rfl (by first | assumption | omega | (dsimp only; omega))) ?_) | (refine AL.rpy rfl rfl rfl (rp_gtrF rfl rfl rfl (by first | assumption | omega | (dsimp only; omega))) ?_) | (refine AL.rpy rfl rfl rfl (rp_gtr rfl rfl rfl) ?_))
   refine AL.rp rfl rfl (rp_pick rfl rfl rfl) ?_
   refine AL.nil ?_
   try simp only [thenS, S.put]
   refine AW.condT rfl ?_
   refine AW.seq ?_
   refine AW.region ?_
   refine AL.rp rfl rfl (rp_assign rfl rfl) ?_
   refine AL.nil ?_
   try simp only [thenS, S.put]
   refine AW.ret ?_
   exact ⟨[_], ⟨rfl, trivial⟩, rfl, by simp [tupOf, V.pure, V.has, V.hasL]⟩
  ·by_cases hok2 : 1000 < x.b
   ·rw [nmF_lab h100' (labP_not hx (by omega))]
    refine AW.seq ?_
    refine AW.region ?_
    (first | (refine AL.rp rfl rfl (rp_lssT rfl rfl rfl (by first | assumption | omega | (dsimp only; omega))) ?_) | (refine AL.rp rfl rfl (rp_lssF rfl rfl rfl (by first | assumption | omega | (dsimp only; omega))) ?_) | (refine AL.rp rfl rfl (rp_lss rfl rfl rfl) ?_))
    refine AL.nil ?_
    try simp only [thenS, S.put]
    refine AW.seq ?_
    refine AW.condT rfl ?_
    refine AW.skip ?_
    try simp only [thenS]
    refine AW.seq ?_
    refine AW.block ?_
    refine AW.seq ?_
    refine AW.region ?_
    (first | (refine AL.rp rfl rfl (rp_index_map Tryd.underlying29 inf54 rfl rfl rfl rfl (by assumption)) ?_) | (refine AL.rp rfl rfl (rp_index_own Tryd.underlying29 inf54 rfl rfl rfl rfl (by first | assumption | omega)) ?_) | (refine AL.rp rfl rfl (rd_index_sl Tryd.underlying29 inf54 rfl rfl rfl rfl (by assumption)) ?_) | (refine AL.rp rfl rfl (rp_index_own Tryd.underlying29 inf54 rfl rfl rfl (by omega) (by omega)) ?_))
    (first | (refine AL.rd rfl rfl (rd_loads_ref Tryd.underlying54 rfl inf54 rfl rfl rfl rfl rfl rfl) ?_) | (refine AL.rd rfl rfl (rd_loads_ad Tryd.underlying54 rfl inf54 rfl rfl rfl rfl) ?_))
    refine AL.sm rfl (sm_alloc (l := [.d (.p (.string ⟨#[]⟩)), .d (.p (.int .i64 0))]) 5 inf54 rfl (by first | rfl | simp [S.clean, S.put, S.newObj, S.forget, V.has, V.hasL, junkIf, setL, V.cs, hasL_i, hasL_vd, hasL_vdt, hasL_d, hasL_b, hasL_s, hasL_n, hasL_rep, hasL_flat, hasL_append, -List.map_set]) rfl rfl) ?_
    refine AL.st rfl (st_store_any inf54 rfl rfl rfl rfl rfl rfl rfl rfl (by first | decide | (simp; done) | (simp; omega)) rfl) ?_
    refine AL.nil ?_
    try simp only [thenS, S.put, S.newObj, setL, V.cs, List.length_cons, List.length_nil, List.take_succ_cons, List.take_zero, List.drop_succ_cons, List.drop_zero, List.drop_nil, List.nil_append, List.cons_append, List.append_nil, Nat.zero_add, Nat.reduceAdd, List.map_cons, List.map_nil, List.set_cons_zero, List.set_cons_succ]
    refine AW.seq ?_
    refine AW.region ?_
    (first | (refine AL.rp rfl rfl (rp_field_ref Tryd.underlying54 rfl rfl rfl inf3 (by decide) rfl) ?_) | (refine AL.rp rfl rfl (rp_field_ad Tryd.underlying54 rfl rfl rfl inf3 (by decide) rfl) ?_))
    (first | (refine AL.rd rfl rfl (rd_load_ref Tryd.underlying3 rfl rfl rfl rfl rfl rfl) ?_) | (refine AL.rd rfl rfl (rd_load_ad Tryd.underlying3 rfl rfl rfl rfl) ?_) | (refine AL.rd rfl rfl (rd_load_map Tryd.underlying3 rfl rfl rfl rfl rfl rfl (by assumption)) ?_) | (refine AL.rd rfl rfl (rd_load_flat Tryd.underlying3 rfl rfl rfl rfl rfl rfl (fun _ => rfl) (by assumption) rfl) ?_))
    (first | (refine AL.rp rfl rfl (rp_lssT rfl rfl rfl (by first | assumption | omega | (dsimp only; omega))) ?_) | (refine AL.rp rfl rfl (rp_lssF rfl rfl rfl (by first | assumption | omega | (dsimp only; omega))) ?_) | (refine AL.rp rfl rfl (rp_lss rfl rfl rfl) ?_))
    refine AL.rp rfl rfl (rp_move rfl rfl) ?_
    (first | (refine AL.noV rfl rfl rfl rfl ?_) | (refine AL.noU rfl ⟨_, rfl, rfl⟩ rfl ?_) | (refine AL.rpy rfl rfl rfl (rp_field_ref Tryd.underlying54 rfl rfl rfl inf3 (by decide) rfl) ?_) | (refine AL.rpy rfl rfl rfl (rp_field_ad Tryd.underlying54 rfl rfl rfl inf3 (by decide) rfl) ?_))
    (first | (refine AL.noV rfl rfl rfl rfl ?_) | (refine AL.noU rfl ⟨_, rfl, rfl⟩ rfl ?_) | (refine AL.rdy rfl rfl rfl (rd_load_ref Tryd.underlying3 rfl rfl rfl rfl rfl rfl) ?_) | (refine AL.rdy rfl rfl rfl (rd_load_ad Tryd.underlying3 rfl rfl rfl rfl) ?_) | (refine AL.rdy rfl rfl rfl (rd_load_map Tryd.underlying3 rfl rfl rfl rfl rfl rfl (by assumption)) ?_) | (refine AL.rdy rfl rfl rfl (rd_load_flat Tryd.underlying3 rfl rfl rfl rfl rfl rfl (fun _ => rfl) (by assumption) rfl) ?_))
    (first | (refine AL.noV rfl rfl rfl rfl ?_) | (refine AL.noU rfl ⟨_, rfl, rfl⟩ rfl ?_) | (refine AL.rpy rfl rfl rfl (rp_gtrT rfl rfl rfl (by first | assumption | omega | (dsimp only; omega))) ?_) | (refine AL.rpy rfl rfl rfl (rp_gtrF rfl rfl rfl (by first | assumption | omega | (dsimp only; omega))) ?_) | (refine AL.rpy rfl rfl rfl (rp_gtr rfl rfl rfl) ?_))
    refine AL.rp rfl rfl (rp_pick rfl rfl rfl) ?_
    refine AL.nil ?_
    try simp only [thenS, S.put]
    refine AW.condT rfl ?_
    refine AW.seq ?_
    refine AW.region ?_
    refine AL.rp rfl rfl (rp_assign rfl rfl) ?_
    refine AL.nil ?_
    try simp only [thenS, S.put]
    refine AW.ret ?_
    exact ⟨[_], ⟨rfl, trivial⟩, rfl, by simp [tupOf, V.pure, V.has, V.hasL]⟩
   ·have hP2 := labP_snoc hP hx (by omega)
    refine AW.seq ?_
    refine AW.region ?_
    (first | (refine AL.rp rfl rfl (rp_lssT rfl rfl rfl (by first | assumption | omega | (dsimp only; omega))) ?_) | (refine AL.rp rfl rfl (rp_lssF rfl rfl rfl (by first | assumption | omega | (dsimp only; omega))) ?_) | (refine AL.rp rfl rfl (rp_lss rfl rfl rfl) ?_))
    refine AL.nil ?_
    try simp only [thenS, S.put]
    refine AW.seq ?_
    refine AW.condT rfl ?_
    refine AW.skip ?_
    try simp only [thenS]
    refine AW.seq ?_
    refine AW.block ?_
    refine AW.seq ?_
    refine AW.region ?_
    (first | (refine AL.rp rfl rfl (rp_index_map Tryd.underlying29 inf54 rfl rfl rfl rfl (by assumption)) ?_) | (refine AL.rp rfl rfl (rp_index_own Tryd.underlying29 inf54 rfl rfl rfl rfl (by first | assumption | omega)) ?_) | (refine AL.rp rfl rfl (rd_index_sl Tryd.underlying29 inf54 rfl rfl rfl rfl (by assumption)) ?_) | (refine AL.rp rfl rfl (rp_index_own Tryd.underlying29 inf54 rfl rfl rfl (by omega) (by omega)) ?_))
    (first | (refine AL.rd rfl rfl (rd_loads_ref Tryd.underlying54 rfl inf54 rfl rfl rfl rfl rfl rfl) ?_) | (refine AL.rd rfl rfl (rd_loads_ad Tryd.underlying54 rfl inf54 rfl rfl rfl rfl) ?_))
    refine AL.sm rfl (sm_alloc (l := [.d (.p (.string ⟨#[]⟩)), .d (.p (.int .i64 0))]) 5 inf54 rfl (by first | rfl | simp [S.clean, S.put, S.newObj, S.forget, V.has, V.hasL, junkIf, setL, V.cs, hasL_i, hasL_vd, hasL_vdt, hasL_d, hasL_b, hasL_s, hasL_n, hasL_rep, hasL_flat, hasL_append, -List.map_set]) rfl rfl) ?_
    refine AL.st rfl (st_store_any inf54 rfl rfl rfl rfl rfl rfl rfl rfl (by first | decide | (simp; done) | (simp; omega)) rfl) ?_
    refine AL.nil ?_
    try simp only [thenS, S.put, S.newObj, setL, V.cs, List.length_cons, List.length_nil, List.take_succ_cons, List.take_zero, List.drop_succ_cons, List.drop_zero, List.drop_nil, List.nil_append, List.cons_append, List.append_nil, Nat.zero_add, Nat.reduceAdd, List.map_cons, List.map_nil, List.set_cons_zero, List.set_cons_succ]
    refine AW.seq ?_
    refine AW.region ?_
    (first | (refine AL.rp rfl rfl (rp_field_ref Tryd.underlying54 rfl rfl rfl inf3 (by decide) rfl) ?_) | (refine AL.rp rfl rfl (rp_field_ad Tryd.underlying54 rfl rfl rfl inf3 (by decide) rfl) ?_))
    (first | (refine AL.rd rfl rfl (rd_load_ref Tryd.underlying3 rfl rfl rfl rfl rfl rfl) ?_) | (refine AL.rd rfl rfl (rd_load_ad Tryd.underlying3 rfl rfl rfl rfl) ?_) | (refine AL.rd rfl rfl (rd_load_map Tryd.underlying3 rfl rfl rfl rfl rfl rfl (by assumption)) ?_) | (refine AL.rd rfl rfl (rd_load_flat Tryd.underlying3 rfl rfl rfl rfl rfl rfl (fun _ => rfl) (by assumption) rfl) ?_))
    (first | (refine AL.rp rfl rfl (rp_lssT rfl rfl rfl (by first | assumption | omega | (dsimp only; omega))) ?_) | (refine AL.rp rfl rfl (rp_lssF rfl rfl rfl (by first | assumption | omega | (dsimp only; omega))) ?_) | (refine AL.rp rfl rfl (rp_lss rfl rfl rfl) ?_))
    refine AL.rp rfl rfl (rp_move rfl rfl) ?_
    (first | (refine AL.noV rfl rfl rfl rfl ?_) | (refine AL.noU rfl ⟨_, rfl, rfl⟩ rfl ?_) | (refine AL.rpy rfl rfl rfl (rp_field_ref Tryd.underlying54 rfl rfl rfl inf3 (by decide) rfl) ?_) | (refine AL.rpy rfl rfl rfl (rp_field_ad Tryd.underlying54 rfl rfl rfl inf3 (by decide) rfl) ?_))
    (first | (refine AL.noV rfl rfl rfl rfl ?_) | (refine AL.noU rfl ⟨_, rfl, rfl⟩ rfl ?_) | (refine AL.rdy rfl rfl rfl (rd_load_ref Tryd.underlying3 rfl rfl rfl rfl rfl rfl) ?_) | (refine AL.rdy rfl rfl rfl (rd_load_ad Tryd.underlying3 rfl rfl rfl rfl) ?_) | (refine AL.rdy rfl rfl rfl (rd_load_map Tryd.underlying3 rfl rfl rfl rfl rfl rfl (by assumption)) ?_) | (refine AL.rdy rfl rfl rfl (rd_load_flat Tryd.underlying3 rfl rfl rfl rfl rfl rfl (fun _ => rfl) (by assumption) rfl) ?_))
    (first | (refine AL.noV rfl rfl rfl rfl ?_) | (refine AL.noU rfl ⟨_, rfl, rfl⟩ rfl ?_) | (refine AL.rpy rfl rfl rfl (rp_gtrT rfl rfl rfl (by first | assumption | omega | (dsimp only; omega))) ?_) | (refine AL.rpy rfl rfl rfl (rp_gtrF rfl rfl rfl (by first | assumption | omega | (dsimp only; omega))) ?_) | (refine AL.rpy rfl rfl rfl (rp_gtr rfl rfl rfl) ?_))
    refine AL.rp rfl rfl (rp_pick rfl rfl rfl) ?_
    refine AL.nil ?_
    try simp only [thenS, S.put]
    refine AW.condF rfl ?_
    refine AW.skip ?_
    try simp only [thenS]
    refine AW.region ?_
    refine AL.rp rfl rfl (rp_add rfl rfl rfl (by first | omega | (dsimp only; omega))) ?_
    refine AL.rp rfl rfl (rp_move rfl rfl) ?_
    refine AL.nil ?_
    try simp only [thenS, S.put]
    refine ⟨_, ?_, ⟨k + 1, by omega, hP2, rfl⟩, ?_⟩
    ·exact (Less.of rfl (by repeat (first | exact trivial | refine ⟨⟨_, rfl, Wk.refl _⟩, ?_⟩ | refine ⟨⟨_, rfl, Wk.nil _ _⟩, ?_⟩ | refine ⟨⟨_, rfl, Wk.junk _⟩, ?_⟩)) (by repeat (first | exact trivial | refine ⟨rfl, ?_⟩)) rfl)
    ·simp [S.nat, fnd]; omega
 have hkl : k = len := by omega
 have hLab : labP l l.length := by rw [hl, ← hkl]; exact hP
 refine AW.seq ?_
 refine AW.region ?_
 (first | (refine AL.rp rfl rfl (rp_lssT rfl rfl rfl (by first | assumption | omega | (dsimp only; omega))) ?_) | (refine AL.rp rfl rfl (rp_lssF rfl rfl rfl (by first | assumption | omega | (dsimp only; omega))) ?_) | (refine AL.rp rfl rfl (rp_lss rfl rfl rfl) ?_))
 refine AL.nil ?_
 try simp only [thenS, S.put]
 refine AW.seq ?_
 refine AW.condF rfl ?_
 refine AW.exit ?_
 try simp only [thenS, inBlockS, ↓reduceIte, Nat.reduceEqDiff]
 refine AW.seq ?_
 refine AW.seq ?_
 refine AW.region ?_
 refine AL.rp rfl rfl (rp_move rfl rfl) ?_
 (first | (refine AL.rp rfl rfl (rp_len_map Tryd.underlying29 rfl rfl (by assumption)) ?_) | (refine AL.rp rfl rfl (rp_len_own Tryd.underlying29 rfl rfl) ?_) | (refine AL.rp rfl rfl (rp_len_sl Tryd.underlying29 rfl rfl) ?_) | (refine AL.rp rfl rfl (rp_len_nil Tryd.underlying29 rfl rfl) ?_) | (refine AL.rp rfl rfl (rp_len_str Tryd.underlying29 rfl rfl) ?_))
 refine AL.rp rfl rfl (rp_move rfl rfl) ?_
 refine AL.nil ?_
 try simp only [thenS, S.put]
 refine AW.block ?_
 refine AW.loop (fun s' => ∃ k : Nat, k ≤ len ∧ txtP l k ∧ s' = ⟨59, [(0, .d (nmsD l)), (3, .ref 800 0), (30, .d (nmsD l)), (31, .i len), (32, .i k)], xM l, []⟩) (fun s' => len - s'.nat 32) ⟨_, ?_, 0, by omega, fun i x hi => absurd hi (by omega), rfl⟩ ?_
 ·exact (Less.of rfl (by repeat (first | exact trivial | refine ⟨⟨_, rfl, Wk.refl _⟩, ?_⟩ | refine ⟨⟨_, rfl, Wk.nil _ _⟩, ?_⟩ | refine ⟨⟨_, rfl, Wk.junk _⟩, ?_⟩)) (by repeat (first | exact trivial | refine ⟨rfl, ?_⟩)) rfl)
 clear hlt hk hkl hP
 clear k
 rintro s' ⟨k, hk, hT, rfl⟩
 unfold xM xH idxR
 by_cases hlt : k < len
 ·obtain ⟨x, hx⟩ := get_lt hl hlt
  by_cases hok : nmB x.t.data.toList = true
  ·have hT2 := txtP_snoc hT hx hok
   have hcon := am_word x.t
   rw [hok] at hcon
   refine AW.seq ?_
   refine AW.region ?_
   (first | (refine AL.rp rfl rfl (rp_lssT rfl rfl rfl (by first | assumption | omega | (dsimp only; omega))) ?_) | (refine AL.rp rfl rfl (rp_lssF rfl rfl rfl (by first | assumption | omega | (dsimp only; omega))) ?_) | (refine AL.rp rfl rfl (rp_lss rfl rfl rfl) ?_))
   refine AL.nil ?_
   try simp only [thenS, S.put]
   refine AW.seq ?_
   refine AW.condT rfl ?_
   refine AW.skip ?_
   try simp only [thenS]
   refine AW.seq ?_
   refine AW.block ?_
   refine AW.seq ?_
   refine AW.region ?_
   (first | (refine AL.rp rfl rfl (rp_index_map Tryd.underlying29 inf54 rfl rfl rfl rfl (by assumption)) ?_) | (refine AL.rp rfl rfl (rp_index_own Tryd.underlying29 inf54 rfl rfl rfl rfl (by first | assumption | omega)) ?_) | (refine AL.rp rfl rfl (rd_index_sl Tryd.underlying29 inf54 rfl rfl rfl rfl (by assumption)) ?_) | (refine AL.rp rfl rfl (rp_index_own Tryd.underlying29 inf54 rfl rfl rfl (by omega) (by omega)) ?_))
   (first | (refine AL.rd rfl rfl (rd_loads_ref Tryd.underlying54 rfl inf54 rfl rfl rfl rfl rfl rfl) ?_) | (refine AL.rd rfl rfl (rd_loads_ad Tryd.underlying54 rfl inf54 rfl rfl rfl rfl) ?_))
   refine AL.sm rfl (sm_alloc (l := [.d (.p (.string ⟨#[]⟩)), .d (.p (.int .i64 0))]) 7 inf54 rfl (by first | rfl | simp [S.clean, S.put, S.newObj, S.forget, V.has, V.hasL, junkIf, setL, V.cs, hasL_i, hasL_vd, hasL_vdt, hasL_d, hasL_b, hasL_s, hasL_n, hasL_rep, hasL_flat, hasL_append, -List.map_set]) rfl rfl) ?_
   refine AL.st rfl (st_store_any inf54 rfl rfl rfl rfl rfl rfl rfl rfl (by first | decide | (simp; done) | (simp; omega)) rfl) ?_
   refine AL.nil ?_
   try simp only [thenS, S.put, S.newObj, setL, V.cs, List.length_cons, List.length_nil, List.take_succ_cons, List.take_zero, List.drop_succ_cons, List.drop_zero, List.drop_nil, List.nil_append, List.cons_append, List.append_nil, Nat.zero_add, Nat.reduceAdd, List.map_cons, List.map_nil, List.set_cons_zero, List.set_cons_succ]
   refine AW.seq ?_
   refine AW.region ?_
   (first | (refine AL.rp rfl rfl (rp_field_ref Tryd.underlying54 rfl rfl rfl inf9 (by decide) rfl) ?_) | (refine AL.rp rfl rfl (rp_field_ad Tryd.underlying54 rfl rfl rfl inf9 (by decide) rfl) ?_))
   (first | (refine AL.rd rfl rfl (rd_load_ref Tryd.underlying9 rfl rfl rfl rfl rfl rfl) ?_) | (refine AL.rd rfl rfl (rd_load_ad Tryd.underlying9 rfl rfl rfl rfl) ?_) | (refine AL.rd rfl rfl (rd_load_map Tryd.underlying9 rfl rfl rfl rfl rfl rfl (by assumption)) ?_) | (refine AL.rd rfl rfl (rd_load_flat Tryd.underlying9 rfl rfl rfl rfl rfl rfl (fun _ => rfl) (by assumption) rfl) ?_))
   refine AL.call (post := ?pc3) rfl (sm_call (args := [_]) ?hc3 ⟨Tryd.func47, rfl, rfl, rfl, rfl⟩ rfl rfl rfl rfl) ?_
   case hc3 => first | assumption | exact am_word _
   rintro _ rfl -
   try dsimp only
   refine AL.rp rfl rfl (rp_not rfl rfl) ?_
   refine AL.nil ?_
   try simp only [thenS, S.put, S.newObj, setL, V.cs, List.length_cons, List.length_nil, List.take_succ_cons, List.take_zero, List.drop_succ_cons, List.drop_zero, List.drop_nil, List.nil_append, List.cons_append, List.append_nil, Nat.zero_add, Nat.reduceAdd, List.map_cons, List.map_nil, List.set_cons_zero, List.set_cons_succ]
   refine AW.condF rfl ?_
   refine AW.skip ?_
   try simp only [thenS]
   refine AW.region ?_
   refine AL.rp rfl rfl (rp_add rfl rfl rfl (by first | omega | (dsimp only; omega))) ?_
   refine AL.rp rfl rfl (rp_move rfl rfl) ?_
   refine AL.nil ?_
   try simp only [thenS, S.put]
   -- left over: 
   refine ⟨_, ?_, ⟨k + 1, by omega, hT2, rfl⟩, ?_⟩
   ·exact (Less.of rfl (by repeat (first | exact trivial | refine ⟨⟨_, rfl, Wk.refl _⟩, ?_⟩ | refine ⟨⟨_, rfl, Wk.nil _ _⟩, ?_⟩ | refine ⟨⟨_, rfl, Wk.junk _⟩, ?_⟩)) (by repeat (first | exact trivial | refine ⟨rfl, ?_⟩)) rfl)
   ·simp [S.nat, fnd]; omega
  ·have hok' : nmB x.t.data.toList = false := by simpa using hok
   have hcon := am_word x.t
   rw [hok'] at hcon
   rw [nmF_txt h100' hLab (txtP_not hx hok')]
   refine AW.seq ?_
   refine AW.region ?_
   (first | (refine AL.rp rfl rfl (rp_lssT rfl rfl rfl (by first | assumption | omega | (dsimp only; omega))) ?_) | (refine AL.rp rfl rfl (rp_lssF rfl rfl rfl (by first | assumption | omega | (dsimp only; omega))) ?_) | (refine AL.rp rfl rfl (rp_lss rfl rfl rfl) ?_))
   refine AL.nil ?_
   try simp only [thenS, S.put]
   refine AW.seq ?_
   refine AW.condT rfl ?_
   refine AW.skip ?_
   try simp only [thenS]
   refine AW.seq ?_
   refine AW.block ?_
   refine AW.seq ?_
   refine AW.region ?_
   (first | (refine AL.rp rfl rfl (rp_index_map Tryd.underlying29 inf54 rfl rfl rfl rfl (by assumption)) ?_) | (refine AL.rp rfl rfl (rp_index_own Tryd.underlying29 inf54 rfl rfl rfl rfl (by first | assumption | omega)) ?_) | (refine AL.rp rfl rfl (rd_index_sl Tryd.underlying29 inf54 rfl rfl rfl rfl (by assumption)) ?_) | (refine AL.rp rfl rfl (rp_index_own Tryd.underlying29 inf54 rfl rfl rfl (by omega) (by omega)) ?_))
   (first | (refine AL.rd rfl rfl (rd_loads_ref Tryd.underlying54 rfl inf54 rfl rfl rfl rfl rfl rfl) ?_) | (refine AL.rd rfl rfl (rd_loads_ad Tryd.underlying54 rfl inf54 rfl rfl rfl rfl) ?_))
   refine AL.sm rfl (sm_alloc (l := [.d (.p (.string ⟨#[]⟩)), .d (.p (.int .i64 0))]) 7 inf54 rfl (by first | rfl | simp [S.clean, S.put, S.newObj, S.forget, V.has, V.hasL, junkIf, setL, V.cs, hasL_i, hasL_vd, hasL_vdt, hasL_d, hasL_b, hasL_s, hasL_n, hasL_rep, hasL_flat, hasL_append, -List.map_set]) rfl rfl) ?_
   refine AL.st rfl (st_store_any inf54 rfl rfl rfl rfl rfl rfl rfl rfl (by first | decide | (simp; done) | (simp; omega)) rfl) ?_
   refine AL.nil ?_
   try simp only [thenS, S.put, S.newObj, setL, V.cs, List.length_cons, List.length_nil, List.take_succ_cons, List.take_zero, List.drop_succ_cons, List.drop_zero, List.drop_nil, List.nil_append, List.cons_append, List.append_nil, Nat.zero_add, Nat.reduceAdd, List.map_cons, List.map_nil, List.set_cons_zero, List.set_cons_succ]
   refine AW.seq ?_
   refine AW.region ?_
   (first | (refine AL.rp rfl rfl (rp_field_ref Tryd.underlying54 rfl rfl rfl inf9 (by decide) rfl) ?_) | (refine AL.rp rfl rfl (rp_field_ad Tryd.underlying54 rfl rfl rfl inf9 (by decide) rfl) ?_))
   (first | (refine AL.rd rfl rfl (rd_load_ref Tryd.underlying9 rfl rfl rfl rfl rfl rfl) ?_) | (refine AL.rd rfl rfl (rd_load_ad Tryd.underlying9 rfl rfl rfl rfl) ?_) | (refine AL.rd rfl rfl (rd_load_map Tryd.underlying9 rfl rfl rfl rfl rfl rfl (by assumption)) ?_) | (refine AL.rd rfl rfl (rd_load_flat Tryd.underlying9 rfl rfl rfl rfl rfl rfl (fun _ => rfl) (by assumption) rfl) ?_))
   refine AL.call (post := ?pc4) rfl (sm_call (args := [_]) ?hc4 ⟨Tryd.func47, rfl, rfl, rfl, rfl⟩ rfl rfl rfl rfl) ?_
   case hc4 => first | assumption | exact am_word _
   rintro _ rfl -
   try dsimp only
   refine AL.rp rfl rfl (rp_not rfl rfl) ?_
   refine AL.nil ?_
   try simp only [thenS, S.put, S.newObj, setL, V.cs, List.length_cons, List.length_nil, List.take_succ_cons, List.take_zero, List.drop_succ_cons, List.drop_zero, List.drop_nil, List.nil_append, List.cons_append, List.append_nil, Nat.zero_add, Nat.reduceAdd, List.map_cons, List.map_nil, List.set_cons_zero, List.set_cons_succ]
   refine AW.condT rfl ?_
   refine AW.seq ?_
   refine AW.region ?_
   refine AL.rp rfl rfl (rp_assign rfl rfl) ?_
   refine AL.nil ?_
   try simp only [thenS, S.put]
   refine AW.ret ?_
   -- left over: 
   exact ⟨[_], ⟨rfl, trivial⟩, rfl, by simp [tupOf, V.pure, V.has, V.hasL]⟩
 have hkl : k = len := by omega
 have hTxt : txtP l l.length := by rw [hl, ← hkl]; exact hT
 have hdup := nms_dup (l := l)
 obtain ⟨nt, hnt⟩ : ∃ n, (bldM Nm.t l l.length).length = n := ⟨_, rfl⟩
 obtain ⟨nb, hnb⟩ : ∃ n, (bldM Nm.b l l.length).length = n := ⟨_, rfl⟩
 have hnt2 : (smap (bldM Nm.t l l.length)).length = nt := by simp [mrows, hnt]
 have hnb2 : (imap (bldM Nm.b l l.length)).length = nb := by simp [mrows, hnb]
 rw [hnt, hnb, hl] at hdup
 clear hlt hk hT
 refine AW.seq ?_
 refine AW.region ?_
 (first | (refine AL.rp rfl rfl (rp_lssT rfl rfl rfl (by first | assumption | omega | (dsimp only; omega))) ?_) | (refine AL.rp rfl rfl (rp_lssF rfl rfl rfl (by first | assumption | omega | (dsimp only; omega))) ?_) | (refine AL.rp rfl rfl (rp_lss rfl rfl rfl) ?_))
 refine AL.nil ?_
 try simp only [thenS, S.put]
 refine AW.seq ?_
 refine AW.condF rfl ?_
 refine AW.exit ?_
 try simp only [thenS, inBlockS, ↓reduceIte, Nat.reduceEqDiff]
 refine AW.seq ?_
 refine AW.seq ?_
 by_cases h1 : nt < len
 ·have hd : dupP l l.length := by rw [hl]; exact hdup.1 (.inl h1)
  rw [nmF_dup h100' hLab hTxt hd]
  refine AW.region ?_
  refine AL.rp rfl rfl (rp_move rfl rfl) ?_
  (first | (refine AL.rp rfl rfl (rp_nilCheck rfl rfl) ?_) | (refine AL.rp rfl rfl (rp_nilCheck_ad rfl rfl) ?_))
  (first | (refine AL.rp rfl rfl (rp_field_ref Tryd.underlying91 rfl rfl rfl inf88 (by decide) rfl) ?_) | (refine AL.rp rfl rfl (rp_field_ad Tryd.underlying91 rfl rfl rfl inf88 (by decide) rfl) ?_))
  (first | (refine AL.rd rfl rfl (rd_load_ref Tryd.underlying88 rfl rfl rfl rfl rfl rfl) ?_) | (refine AL.rd rfl rfl (rd_load_ad Tryd.underlying88 rfl rfl rfl rfl) ?_) | (refine AL.rd rfl rfl (rd_load_map Tryd.underlying88 rfl rfl rfl rfl rfl rfl (by assumption)) ?_) | (refine AL.rd rfl rfl (rd_load_flat Tryd.underlying88 rfl rfl rfl rfl rfl rfl (fun _ => rfl) (by assumption) rfl) ?_))
  refine AL.rd rfl rfl (rd_len_map Tryd.underlying88 rfl rfl) ?_
  refine AL.rp rfl rfl (rp_move rfl rfl) ?_
  (first | (refine AL.rp rfl rfl (rp_len_map Tryd.underlying29 rfl rfl (by assumption)) ?_) | (refine AL.rp rfl rfl (rp_len_own Tryd.underlying29 rfl rfl) ?_) | (refine AL.rp rfl rfl (rp_len_sl Tryd.underlying29 rfl rfl) ?_) | (refine AL.rp rfl rfl (rp_len_nil Tryd.underlying29 rfl rfl) ?_) | (refine AL.rp rfl rfl (rp_len_str Tryd.underlying29 rfl rfl) ?_))
  (first | (refine AL.rp rfl rfl (rp_lssT rfl rfl rfl (by first | assumption | omega | (dsimp only; omega))) ?_) | (refine AL.rp rfl rfl (rp_lssF rfl rfl rfl (by first | assumption | omega | (dsimp only; omega))) ?_) | (refine AL.rp rfl rfl (rp_lss rfl rfl rfl) ?_))
  refine AL.rp rfl rfl (rp_move rfl rfl) ?_
  (first | (refine AL.noV rfl rfl rfl rfl ?_) | (refine AL.noU rfl ⟨_, rfl, rfl⟩ rfl ?_) | (refine AL.rpy rfl rfl rfl (rp_move rfl rfl) ?_))
  (first | (refine AL.noV rfl rfl rfl rfl ?_) | (refine AL.noU rfl ⟨_, rfl, rfl⟩ rfl ?_) | (refine AL.rpy rfl rfl rfl (rp_nilCheck rfl rfl) ?_) | (refine AL.rpy rfl rfl rfl (rp_nilCheck_ad rfl rfl) ?_))
  (first | (refine AL.noV rfl rfl rfl rfl ?_) | (refine AL.noU rfl ⟨_, rfl, rfl⟩ rfl ?_) | (refine AL.rpy rfl rfl rfl (rp_field_ref Tryd.underlying91 rfl rfl rfl inf89 (by decide) rfl) ?_) | (refine AL.rpy rfl rfl rfl (rp_field_ad Tryd.underlying91 rfl rfl rfl inf89 (by decide) rfl) ?_))
  (first | (refine AL.noV rfl rfl rfl rfl ?_) | (refine AL.noU rfl ⟨_, rfl, rfl⟩ rfl ?_) | (refine AL.rdy rfl rfl rfl (rd_load_ref Tryd.underlying89 rfl rfl rfl rfl rfl rfl) ?_) | (refine AL.rdy rfl rfl rfl (rd_load_ad Tryd.underlying89 rfl rfl rfl rfl) ?_) | (refine AL.rdy rfl rfl rfl (rd_load_map Tryd.underlying89 rfl rfl rfl rfl rfl rfl (by assumption)) ?_) | (refine AL.rdy rfl rfl rfl (rd_load_flat Tryd.underlying89 rfl rfl rfl rfl rfl rfl (fun _ => rfl) (by assumption) rfl) ?_))
  (first | (refine AL.noV rfl rfl rfl rfl ?_) | (refine AL.noU rfl ⟨_, rfl, rfl⟩ rfl ?_) | (refine AL.rdy rfl rfl rfl (rd_len_map Tryd.underlying89 rfl rfl) ?_))
  (first | (refine AL.noV rfl rfl rfl rfl ?_) | (refine AL.noU rfl ⟨_, rfl, rfl⟩ rfl ?_) | (refine AL.rpy rfl rfl rfl (rp_move rfl rfl) ?_))
  (first | (refine AL.noV rfl rfl rfl rfl ?_) | (refine AL.noU rfl ⟨_, rfl, rfl⟩ rfl ?_) | (refine AL.rpy rfl rfl rfl (rp_len_map Tryd.underlying29 rfl rfl (by assumption)) ?_) | (refine AL.rpy rfl rfl rfl (rp_len_own Tryd.underlying29 rfl rfl) ?_) | (refine AL.rpy rfl rfl rfl (rp_len_sl Tryd.underlying29 rfl rfl) ?_) | (refine AL.rpy rfl rfl rfl (rp_len_nil Tryd.underlying29 rfl rfl) ?_) | (refine AL.rpy rfl rfl rfl (rp_len_str Tryd.underlying29 rfl rfl) ?_))
  (first | (refine AL.noV rfl rfl rfl rfl ?_) | (refine AL.noU rfl ⟨_, rfl, rfl⟩ rfl ?_) | (refine AL.rpy rfl rfl rfl (rp_lssT rfl rfl rfl (by first | assumption | omega | (dsimp only; omega))) ?_) | (refine AL.rpy rfl rfl rfl (rp_lssF rfl rfl rfl (by first | assumption | omega | (dsimp only; omega))) ?_) | (refine AL.rpy rfl rfl rfl (rp_lss rfl rfl rfl) ?_))
  refine AL.rp rfl rfl (rp_pick rfl rfl rfl) ?_
  refine AL.nil ?_
  try simp only [thenS, S.put]
  refine AW.condT rfl ?_
  refine AW.seq ?_
  refine AW.region ?_
  refine AL.rp rfl rfl (rp_assign rfl rfl) ?_
  refine AL.nil ?_
  try simp only [thenS, S.put]
  refine AW.ret ?_
  exact ⟨[_], ⟨rfl, trivial⟩, rfl, by simp [tupOf, V.pure, V.has, V.hasL]⟩
 ·by_cases h2 : nb < len
  ·have hd : dupP l l.length := by rw [hl]; exact hdup.1 (.inr h2)
   rw [nmF_dup h100' hLab hTxt hd]
   refine AW.region ?_
   refine AL.rp rfl rfl (rp_move rfl rfl) ?_
   (first | (refine AL.rp rfl rfl (rp_nilCheck rfl rfl) ?_) | (refine AL.rp rfl rfl (rp_nilCheck_ad rfl rfl) ?_))
   (first | (refine AL.rp rfl rfl (rp_field_ref Tryd.underlying91 rfl rfl rfl inf88 (by decide) rfl) ?_) | (refine AL.rp rfl rfl (rp_field_ad Tryd.underlying91 rfl rfl rfl inf88 (by decide) rfl) ?_))
   (first | (refine AL.rd rfl rfl (rd_load_ref Tryd.underlying88 rfl rfl rfl rfl rfl rfl) ?_) | (refine AL.rd rfl rfl (rd_load_ad Tryd.underlying88 rfl rfl rfl rfl) ?_) | (refine AL.rd rfl rfl (rd_load_map Tryd.underlying88 rfl rfl rfl rfl rfl rfl (by assumption)) ?_) | (refine AL.rd rfl rfl (rd_load_flat Tryd.underlying88 rfl rfl rfl rfl rfl rfl (fun _ => rfl) (by assumption) rfl) ?_))
   refine AL.rd rfl rfl (rd_len_map Tryd.underlying88 rfl rfl) ?_
   refine AL.rp rfl rfl (rp_move rfl rfl) ?_
   (first | (refine AL.rp rfl rfl (rp_len_map Tryd.underlying29 rfl rfl (by assumption)) ?_) | (refine AL.rp rfl rfl (rp_len_own Tryd.underlying29 rfl rfl) ?_) | (refine AL.rp rfl rfl (rp_len_sl Tryd.underlying29 rfl rfl) ?_) | (refine AL.rp rfl rfl (rp_len_nil Tryd.underlying29 rfl rfl) ?_) | (refine AL.rp rfl rfl (rp_len_str Tryd.underlying29 rfl rfl) ?_))
   (first | (refine AL.rp rfl rfl (rp_lssT rfl rfl rfl (by first | assumption | omega | (dsimp only; omega))) ?_) | (refine AL.rp rfl rfl (rp_lssF rfl rfl rfl (by first | assumption | omega | (dsimp only; omega))) ?_) | (refine AL.rp rfl rfl (rp_lss rfl rfl rfl) ?_))
   refine AL.rp rfl rfl (rp_move rfl rfl) ?_
   (first | (refine AL.noV rfl rfl rfl rfl ?_) | (refine AL.noU rfl ⟨_, rfl, rfl⟩ rfl ?_) | (refine AL.rpy rfl rfl rfl (rp_move rfl rfl) ?_))
   (first | (refine AL.noV rfl rfl rfl rfl ?_) | (refine AL.noU rfl ⟨_, rfl, rfl⟩ rfl ?_) | (refine AL.rpy rfl rfl rfl (rp_nilCheck rfl rfl) ?_) | (refine AL.rpy rfl rfl rfl (rp_nilCheck_ad rfl rfl) ?_))
   (first | (refine AL.noV rfl rfl rfl rfl ?_) | (refine AL.noU rfl ⟨_, rfl, rfl⟩ rfl ?_) | (refine AL.rpy rfl rfl rfl (rp_field_ref Tryd.underlying91 rfl rfl rfl inf89 (by decide) rfl) ?_) | (refine AL.rpy rfl rfl rfl (rp_field_ad Tryd.underlying91 rfl rfl rfl inf89 (by decide) rfl) ?_))
   (first | (refine AL.noV rfl rfl rfl rfl ?_) | (refine AL.noU rfl ⟨_, rfl, rfl⟩ rfl ?_) | (refine AL.rdy rfl rfl rfl (rd_load_ref Tryd.underlying89 rfl rfl rfl rfl rfl rfl) ?_) | (refine AL.rdy rfl rfl rfl (rd_load_ad Tryd.underlying89 rfl rfl rfl rfl) ?_) | (refine AL.rdy rfl rfl rfl (rd_load_map Tryd.underlying89 rfl rfl rfl rfl rfl rfl (by assumption)) ?_) | (refine AL.rdy rfl rfl rfl (rd_load_flat Tryd.underlying89 rfl rfl rfl rfl rfl rfl (fun _ => rfl) (by assumption) rfl) ?_))
   (first | (refine AL.noV rfl rfl rfl rfl ?_) | (refine AL.noU rfl ⟨_, rfl, rfl⟩ rfl ?_) | (refine AL.rdy rfl rfl rfl (rd_len_map Tryd.underlying89 rfl rfl) ?_))
   (first | (refine AL.noV rfl rfl rfl rfl ?_) | (refine AL.noU rfl ⟨_, rfl, rfl⟩ rfl ?_) | (refine AL.rpy rfl rfl rfl (rp_move rfl rfl) ?_))
   (first | (refine AL.noV rfl rfl rfl rfl ?_) | (refine AL.noU rfl ⟨_, rfl, rfl⟩ rfl ?_) | (refine AL.rpy rfl rfl rfl (rp_len_map Tryd.underlying29 rfl rfl (by assumption)) ?_) | (refine AL.rpy rfl rfl rfl (rp_len_own Tryd.underlying29 rfl rfl) ?_) | (refine AL.rpy rfl rfl rfl (rp_len_sl Tryd.underlying29 rfl rfl) ?_) | (refine AL.rpy rfl rfl rfl (rp_len_nil Tryd.underlying29 rfl rfl) ?_) | (refine AL.rpy rfl rfl rfl (rp_len_str Tryd.underlying29 rfl rfl) ?_))
   (first | (refine AL.noV rfl rfl rfl rfl ?_) | (refine AL.noU rfl ⟨_, rfl, rfl⟩ rfl ?_) | (refine AL.rpy rfl rfl rfl (rp_lssT rfl rfl rfl (by first | assumption | omega | (dsimp only; omega))) ?_) | (refine AL.rpy rfl rfl rfl (rp_lssF rfl rfl rfl (by first | assumption | omega | (dsimp only; omega))) ?_) | (refine AL.rpy rfl rfl rfl (rp_lss rfl rfl rfl) ?_))
   refine AL.rp rfl rfl (rp_pick rfl rfl rfl) ?_
   refine AL.nil ?_
   try simp only [thenS, S.put]
   refine AW.condT rfl ?_
   refine AW.seq ?_
   refine AW.region ?_
   refine AL.rp rfl rfl (rp_assign rfl rfl) ?_
   refine AL.nil ?_
   try simp only [thenS, S.put]
   refine AW.ret ?_
   exact ⟨[_], ⟨rfl, trivial⟩, rfl, by simp [tupOf, V.pure, V.has, V.hasL]⟩
  ·have hd : ¬ dupP l l.length := fun h => by rw [hl] at h; have := hdup.2 h; omega
   rw [nmF_ok h100' hLab hTxt hd]
   refine AW.region ?_
   refine AL.rp rfl rfl (rp_move rfl rfl) ?_
   (first | (refine AL.rp rfl rfl (rp_nilCheck rfl rfl) ?_) | (refine AL.rp rfl rfl (rp_nilCheck_ad rfl rfl) ?_))
   (first | (refine AL.rp rfl rfl (rp_field_ref Tryd.underlying91 rfl rfl rfl inf88 (by decide) rfl) ?_) | (refine AL.rp rfl rfl (rp_field_ad Tryd.underlying91 rfl rfl rfl inf88 (by decide) rfl) ?_))
   (first | (refine AL.rd rfl rfl (rd_load_ref Tryd.underlying88 rfl rfl rfl rfl rfl rfl) ?_) | (refine AL.rd rfl rfl (rd_load_ad Tryd.underlying88 rfl rfl rfl rfl) ?_) | (refine AL.rd rfl rfl (rd_load_map Tryd.underlying88 rfl rfl rfl rfl rfl rfl (by assumption)) ?_) | (refine AL.rd rfl rfl (rd_load_flat Tryd.underlying88 rfl rfl rfl rfl rfl rfl (fun _ => rfl) (by assumption) rfl) ?_))
   refine AL.rd rfl rfl (rd_len_map Tryd.underlying88 rfl rfl) ?_
   refine AL.rp rfl rfl (rp_move rfl rfl) ?_
   (first | (refine AL.rp rfl rfl (rp_len_map Tryd.underlying29 rfl rfl (by assumption)) ?_) | (refine AL.rp rfl rfl (rp_len_own Tryd.underlying29 rfl rfl) ?_) | (refine AL.rp rfl rfl (rp_len_sl Tryd.underlying29 rfl rfl) ?_) | (refine AL.rp rfl rfl (rp_len_nil Tryd.underlying29 rfl rfl) ?_) | (refine AL.rp rfl rfl (rp_len_str Tryd.underlying29 rfl rfl) ?_))
   (first | (refine AL.rp rfl rfl (rp_lssT rfl rfl rfl (by first | assumption | omega | (dsimp only; omega))) ?_) | (refine AL.rp rfl rfl (rp_lssF rfl rfl rfl (by first | assumption | omega | (dsimp only; omega))) ?_) | (refine AL.rp rfl rfl (rp_lss rfl rfl rfl) ?_))
   refine AL.rp rfl rfl (rp_move rfl rfl) ?_
   (first | (refine AL.noV rfl rfl rfl rfl ?_) | (refine AL.noU rfl ⟨_, rfl, rfl⟩ rfl ?_) | (refine AL.rpy rfl rfl rfl (rp_move rfl rfl) ?_))
   (first | (refine AL.noV rfl rfl rfl rfl ?_) | (refine AL.noU rfl ⟨_, rfl, rfl⟩ rfl ?_) | (refine AL.rpy rfl rfl rfl (rp_nilCheck rfl rfl) ?_) | (refine AL.rpy rfl rfl rfl (rp_nilCheck_ad rfl rfl) ?_))
   (first | (refine AL.noV rfl rfl rfl rfl ?_) | (refine AL.noU rfl ⟨_, rfl, rfl⟩ rfl ?_) | (refine AL.rpy rfl rfl rfl (rp_field_ref Tryd.underlying91 rfl rfl rfl inf89 (by decide) rfl) ?_) | (refine AL.rpy rfl rfl rfl (rp_field_ad Tryd.underlying91 rfl rfl rfl inf89 (by decide) rfl) ?_))
   (first | (refine AL.noV rfl rfl rfl rfl ?_) | (refine AL.noU rfl ⟨_, rfl, rfl⟩ rfl ?_) | (refine AL.rdy rfl rfl rfl (rd_load_ref Tryd.underlying89 rfl rfl rfl rfl rfl rfl) ?_) | (refine AL.rdy rfl rfl rfl (rd_load_ad Tryd.underlying89 rfl rfl rfl rfl) ?_) | (refine AL.rdy rfl rfl rfl (rd_load_map Tryd.underlying89 rfl rfl rfl rfl rfl rfl (by assumption)) ?_) | (refine AL.rdy rfl rfl rfl (rd_load_flat Tryd.underlying89 rfl rfl rfl rfl rfl rfl (fun _ => rfl) (by assumption) rfl) ?_))
   (first | (refine AL.noV rfl rfl rfl rfl ?_) | (refine AL.noU rfl ⟨_, rfl, rfl⟩ rfl ?_) | (refine AL.rdy rfl rfl rfl (rd_len_map Tryd.underlying89 rfl rfl) ?_))
   (first | (refine AL.noV rfl rfl rfl rfl ?_) | (refine AL.noU rfl ⟨_, rfl, rfl⟩ rfl ?_) | (refine AL.rpy rfl rfl rfl (rp_move rfl rfl) ?_))
   (first | (refine AL.noV rfl rfl rfl rfl ?_) | (refine AL.noU rfl ⟨_, rfl, rfl⟩ rfl ?_) | (refine AL.rpy rfl rfl rfl (rp_len_map Tryd.underlying29 rfl rfl (by assumption)) ?_) | (refine AL.rpy rfl rfl rfl (rp_len_own Tryd.underlying29 rfl rfl) ?_) | (refine AL.rpy rfl rfl rfl (rp_len_sl Tryd.underlying29 rfl rfl) ?_) | (refine AL.rpy rfl rfl rfl (rp_len_nil Tryd.underlying29 rfl rfl) ?_) | (refine AL.rpy rfl rfl rfl (rp_len_str Tryd.underlying29 rfl rfl) ?_))
   (first | (refine AL.noV rfl rfl rfl rfl ?_) | (refine AL.noU rfl ⟨_, rfl, rfl⟩ rfl ?_) | (refine AL.rpy rfl rfl rfl (rp_lssT rfl rfl rfl (by first | assumption | omega | (dsimp only; omega))) ?_) | (refine AL.rpy rfl rfl rfl (rp_lssF rfl rfl rfl (by first | assumption | omega | (dsimp only; omega))) ?_) | (refine AL.rpy rfl rfl rfl (rp_lss rfl rfl rfl) ?_))
   refine AL.rp rfl rfl (rp_pick rfl rfl rfl) ?_
   refine AL.nil ?_
   try simp only [thenS, S.put]
   refine AW.condF rfl ?_
   refine AW.skip ?_
   try simp only [thenS]
   refine AW.seq ?_
   refine AW.region ?_
   refine AL.rp rfl rfl (rp_assign rfl rfl) ?_
   refine AL.nil ?_
   try simp only [thenS, S.put]
   refine AW.ret ?_
   exact ⟨[_], ⟨rfl, trivial⟩, rfl, by simp [tupOf, V.pure, V.has, V.hasL]⟩
end Go.Proofs.YthflidjnlnmbiaaDoor

namespace Go.Proofs.YthflidjnlnmbiaaDoor
open Go.RowKit
open Go.Sort (grow)
set_option linter.unusedSimpArgs false
set_option linter.unusedVariables false
set_option maxRecDepth 100000

theorem grow_below (w : World) (k : Nat) (os : Array Obj) : Below w.heap.size w (grow (w.drewN k) os) :=
  ⟨rfl, rfl, rfl, by simp [grow, World.drewN], fun k hk => by simp [grow, World.drewN, Array.getElem?_append_left hk]⟩
def preT : World → Prop := fun w => Lib.TabIs Tryd.prog w "internal/strconv.uint64pow10" .u64 Lib.pow10Tab
theorem am_Itoa (n : Nat) (h : n ≤ 1000000001) : FnP preT Tryd.prog 20 [.i (n : Int)] (fun v => v = .s (decS n)) :=
  FnP.ofCalls (xs := [.int .i64 (n : Int)]) (y := .string (decS n)) (fun w hw => (itoa_call (n : Int) (by omega) (by omega) w hw).mono fun e w' ⟨he, k, os, hw'⟩ => ⟨by
    rw [he]
    have : (⟨(Lib.itoa (n : Int)).toArray⟩ : ByteArray) = decS n := by unfold Lib.itoa decS; rw [if_neg (by omega)]; simp only [Int.toNat_natCast]
    rw [this], by rw [hw']; exact grow_below _ _ _⟩) (fun _ _ _ zs h => by
    obtain ⟨h1, h2⟩ := h
    match zs, h1, h2 with
    | [z], _, h2 => rw [VRep.p_eq (h2 0 _ z rfl rfl)]) (fun _ _ _ => .d _ _ (.p _)) (by simp [V.pure, V.has, V.hasL])
end Go.Proofs.YthflidjnlnmbiaaDoor

namespace Go.Proofs.YthflidjnlnmbiaaDoor
open Go.RowKit
set_option linter.unusedSimpArgs false
set_option linter.unusedVariables false
set_option maxRecDepth 100000

/-- What names.Show writes. -/
def nmLine (x : Nm) : ByteArray := x.t ++ ⟨#[32]⟩ ++ decS x.b.toNat ++ ⟨#[10]⟩
def nmS (l : List Nm) : ByteArray := l.foldl (fun s x => s ++ nmLine x) ⟨#[]⟩
theorem nmS_snoc {l : List Nm} {k : Nat} {x : Nm} (hx : l[k]? = some x) : nmS (l.take (k + 1)) = nmS (l.take k) ++ nmLine x := by
 unfold nmS
 rw [take_snoc hx, List.foldl_append]
 rfl
theorem nmLine_size {x : Nm} (h : nmB x.t.data.toList = true) (hb : 1 ≤ x.b ∧ x.b ≤ 1000) : 0 < (nmLine x).size ∧ (nmLine x).size ≤ 2000 ∧ x.t.size ≤ 12 ∧ (decS x.b.toNat).size ≤ 1001 := by
 have h1 : x.t.size ≤ 12 := by
  have hl : x.t.data.toList.length = x.t.size := Array.length_toList
  refine Classical.byContradiction fun hn => ?_
  rw [nmB_false fun ⟨_, h2, _⟩ => by omega] at h
  cases h
 have h2 := decS_size x.b.toNat
 have h3 : (⟨#[32]⟩ : ByteArray).size = 1 := rfl
 have h4 : (⟨#[10]⟩ : ByteArray).size = 1 := rfl
 unfold nmLine
 simp only [ByteArray.size_append]
 omega
/-- What names.Show answers. -/
noncomputable def shN (l : List Nm) : ByteArray := if nmF l = 0 then nmS l else ⟨#[]⟩
theorem bok : BOk 52 := ⟨Nat.le_of_ble_eq_true (by kernel_rfl), Nat.le_of_ble_eq_true (by kernel_rfl), by kernel_rfl⟩
theorem lw0 {K : List V} (hk : V.lowL 901 K = true) : Lw [] K := ⟨fun y hy => (by cases hy), hk⟩
theorem lw7 (t : ByteArray) (b : Int) {K : List V} (hk : V.lowL 901 K = true) : Lw [(7, ⟨54, [.s t, .i b], false, 0⟩)] K := ⟨fun y hy => by
 rw [List.mem_singleton] at hy
 subst hy
 exact ⟨by show 7 < 900; decide, rfl⟩, hk⟩
set_option maxHeartbeats 1000000 in
theorem am_NShow (l : List Nm) : FnP preT Tryd.prog 12 [.d (nmsD l)] (fun v => v = .tup [.s (shN l), .i (nmF l)]) := by
 obtain ⟨e, he⟩ : ∃ e, nmF l = e := ⟨_, rfl⟩
 have hcon := am_NCheck l
 rw [he] at hcon ⊢
 by_cases h0 : e = 0
 ·subst h0
  have hR : shN l = nmS l := by unfold shN; rw [if_pos he]
  rw [hR]
  obtain ⟨h100, hLab, hTxt, _⟩ := nmF_0 he
  clear he hR
  obtain ⟨n, hn⟩ : ∃ n, l.length = n := ⟨_, rfl⟩
  rw [hn] at h100 hLab hTxt
  refine FnP.intro (n := 30) ⟨Tryd.func12, rfl, rfl, rfl, rfl⟩ (by simp [V.pure, V.has, V.hasL]) (by simp) fun w0 out hpre => ?_
  refine AW.seq ?_
  refine AW.region ?_
  refine AL.rp rfl rfl (rp_assign rfl rfl) ?_
  refine AL.rp rfl rfl (rp_assign rfl rfl) ?_
  refine AL.nil ?_
  try simp only [thenS, S.put, enum, List.nil_append, List.cons_append, List.append_nil, Nat.zero_add, Nat.reduceAdd]
  refine AW.seq ?_
  refine AW.seq ?_
  refine AW.region ?_
  refine AL.rp rfl rfl (rp_move rfl rfl) ?_
  refine AL.call (post := ?pc0) rfl (sm_call (args := [_]) ?hc0 ⟨Tryd.func26, rfl, rfl, rfl, rfl⟩ rfl rfl rfl rfl) ?_
  case hc0 => exact hcon
  rintro _ rfl -
  try dsimp only
  refine AL.rp rfl rfl (rp_assign rfl rfl) ?_
  refine AL.nil ?_
  try simp only [thenS, S.put, S.newObj, setL, V.cs, List.length_cons, List.length_nil, List.take_succ_cons, List.take_zero, List.drop_succ_cons, List.drop_zero, List.drop_nil, List.nil_append, List.cons_append, List.append_nil, Nat.zero_add, Nat.reduceAdd, List.map_cons, List.map_nil, List.set_cons_zero, List.set_cons_succ]
  refine AW.seq ?_
  refine AW.region ?_
  refine AL.rp rfl rfl (rp_move rfl rfl) ?_
  (first | (refine AL.rp rfl rfl (rp_neqT rfl rfl rfl (by first | assumption | omega | (dsimp only; omega))) ?_) | (refine AL.rp rfl rfl (rp_neqF rfl rfl rfl (by first | assumption | omega | (dsimp only; omega))) ?_) | (refine AL.rp rfl rfl (rp_neq rfl rfl rfl) ?_))
  refine AL.nil ?_
  try simp only [thenS, S.put]
  refine AW.condF rfl ?_
  refine AW.skip ?_
  try simp only [thenS]
  refine AW.seq ?_
  refine AW.region ?_
  refine AL.sm rfl (sm_alloc (l := [.d (.p (.pointer none)), .d (.p (.slice none 0 0))]) 900 inf52 rfl (by first | rfl | simp [S.clean, S.put, S.newObj, S.forget, V.has, V.hasL, junkIf, setL, V.cs, hasL_i, strV_has, hasL_vd, hasL_vdt, hasL_d, hasL_b, hasL_s, hasL_n, hasL_rep, hasL_flat, hasL_append, -List.map_set]) rfl rfl) ?_
  refine AL.nil ?_
  try simp only [thenS, S.put, S.newObj, setL, V.cs, List.length_cons, List.length_nil, List.take_succ_cons, List.take_zero, List.drop_succ_cons, List.drop_zero, List.drop_nil, List.nil_append, List.cons_append, List.append_nil, Nat.zero_add, Nat.reduceAdd, List.map_cons, List.map_nil, List.set_cons_zero, List.set_cons_succ]
  refine AW.seq ?_
  refine AW.seq ?_
  refine AW.adoptH 900 1 901 1 5 rfl rfl rfl (by simp [S.clean, V.has, V.hasL, V.cs, setL]) ?_
  refine AW.region ?_
  refine AL.rp rfl rfl (rp_move rfl rfl) ?_
  (first | (refine AL.rp rfl rfl (rp_len_map Tryd.underlying29 rfl rfl (by assumption)) ?_) | (refine AL.rp rfl rfl (rp_len_own Tryd.underlying29 rfl rfl) ?_) | (refine AL.rp rfl rfl (rp_len_sl Tryd.underlying29 rfl rfl) ?_) | (refine AL.rp rfl rfl (rp_len_nil Tryd.underlying29 rfl rfl) ?_) | (refine AL.rp rfl rfl (rp_len_str Tryd.underlying29 rfl rfl) ?_))
  refine AL.rp rfl rfl (rp_move rfl rfl) ?_
  refine AL.nil ?_
  try simp only [thenS, S.put]
  refine AW.block ?_
  refine AW.loop (fun s' => ∃ (k : Nat) (a z : Bool), k ≤ n ∧ (nmS (l.take k)).size ≤ 2000 * k ∧ (z = true ↔ (nmS (l.take k)).size = 0) ∧ s' = ⟨30, [(5, .ref 900 0), (13, .d (nmsD l)), (14, .i n), (15, .i k)], bH 52 a z (nmS (l.take k)) [], []⟩) (fun s' => n - s'.nat 15) ⟨_, ?_, 0, false, true, by omega, Nat.le_refl 0, ⟨fun _ => rfl, fun _ => rfl⟩, rfl⟩ ?_
  ·exact (Less.of rfl (by repeat (first | exact trivial | refine ⟨⟨_, rfl, Wk.refl _⟩, ?_⟩ | refine ⟨⟨_, rfl, Wk.nil _ _⟩, ?_⟩ | refine ⟨⟨_, rfl, Wk.junk _⟩, ?_⟩)) (by repeat (first | exact trivial | refine ⟨rfl, ?_⟩)) rfl)
  rintro s' ⟨k, a, z, hk, hsz, hz, rfl⟩
  by_cases hlt : k < n
  ·obtain ⟨x, hx⟩ := get_lt hn hlt
   obtain ⟨b1, b2⟩ := hLab k x hlt hx
   obtain ⟨z0, z1, z2, z3⟩ := nmLine_size (hTxt k x hlt hx) ⟨b1, b2⟩
   obtain ⟨p, hp⟩ : ∃ p : Nat, x.b = p := ⟨x.b.toNat, by omega⟩
   have hit := am_Itoa p (by omega)
   have hp2 : x.b.toNat = p := by omega
   have hsn := nmS_snoc hx
   have hline : x.t ++ ⟨#[32]⟩ ++ decS p ++ ⟨#[10]⟩ = nmLine x := by unfold nmLine; rw [hp2]
   have z0' : 0 < (x.t ++ ⟨#[32]⟩ ++ decS p ++ ⟨#[10]⟩).size := by rw [hline]; exact z0
   have hs32 : (⟨#[32]⟩ : ByteArray).size = 1 := rfl
   have hs10 : (⟨#[10]⟩ : ByteArray).size = 1 := rfl
   rw [hp2] at z3
   cases a
   ·simp only [bH]
    refine AW.seq ?_
    refine AW.region ?_
    (first | (refine AL.rp rfl rfl (rp_lssT rfl rfl rfl (by first | assumption | omega | (dsimp only; omega))) ?_) | (refine AL.rp rfl rfl (rp_lssF rfl rfl rfl (by first | assumption | omega | (dsimp only; omega))) ?_) | (refine AL.rp rfl rfl (rp_lss rfl rfl rfl) ?_))
    refine AL.nil ?_
    try simp only [thenS, S.put]
    refine AW.seq ?_
    refine AW.condT rfl ?_
    refine AW.skip ?_
    try simp only [thenS]
    refine AW.seq ?_
    refine AW.block ?_
    refine AW.seq ?_
    refine AW.region ?_
    (first | (refine AL.rp rfl rfl (rp_index_map Tryd.underlying29 inf54 rfl rfl rfl rfl (by assumption)) ?_) | (refine AL.rp rfl rfl (rp_index_own Tryd.underlying29 inf54 rfl rfl rfl rfl (by first | assumption | omega)) ?_) | (refine AL.rp rfl rfl (rd_index_sl Tryd.underlying29 inf54 rfl rfl rfl rfl (by assumption)) ?_) | (refine AL.rp rfl rfl (rp_index_own Tryd.underlying29 inf54 rfl rfl rfl (by omega) (by omega)) ?_))
    (first | (refine AL.rd rfl rfl (rd_loads_ref Tryd.underlying54 rfl inf54 rfl rfl rfl rfl rfl rfl) ?_) | (refine AL.rd rfl rfl (rd_loads_ad Tryd.underlying54 rfl inf54 rfl rfl rfl rfl) ?_))
    refine AL.sm rfl (sm_alloc (l := [.d (.p (.string ⟨#[]⟩)), .d (.p (.int .i64 0))]) 7 inf54 rfl (by first | rfl | simp [S.clean, S.put, S.newObj, S.forget, V.has, V.hasL, junkIf, setL, V.cs, hasL_i, strV_has, hasL_vd, hasL_vdt, hasL_d, hasL_b, hasL_s, hasL_n, hasL_rep, hasL_flat, hasL_append, -List.map_set]) rfl rfl) ?_
    refine AL.st rfl (st_store_any inf54 rfl rfl rfl rfl rfl rfl rfl rfl (by first | decide | (simp; done) | (simp; omega)) rfl) ?_
    refine AL.nil ?_
    try simp only [thenS, S.put, S.newObj, setL, V.cs, List.length_cons, List.length_nil, List.take_succ_cons, List.take_zero, List.drop_succ_cons, List.drop_zero, List.drop_nil, List.nil_append, List.cons_append, List.append_nil, Nat.zero_add, Nat.reduceAdd, List.map_cons, List.map_nil, List.set_cons_zero, List.set_cons_succ]
    refine AW.less (s' := ⟨30, [(5, .ref 900 0), (13, .d (nmsD l)), (14, .i n), (15, .i k), (7, .ref 7 0)], bH 52 false z (nmS (l.take k)) [(7, ⟨54, [.s x.t, .i x.b], false, 0⟩)], []⟩) (Less.of rfl (by repeat (first | exact trivial | refine ⟨⟨_, rfl, Wk.refl _⟩, ?_⟩ | refine ⟨⟨_, rfl, Wk.nil _ _⟩, ?_⟩ | refine ⟨⟨_, rfl, Wk.junk _⟩, ?_⟩)) (by repeat (first | exact trivial | refine ⟨rfl, ?_⟩)) rfl) ?_
    rw [hp]
    refine AW.drawF [(0, 2), (1, 1), (2, 2), (3, 2), (4, 1), (5, 0), (6, 2), (7, 2), (8, 0)] (fun i => !([8] : List Nat).contains i) 9 (by kernel_rfl) (by kernel_rfl) rfl (by kernel_rfl) ?_
    (first | (refine AF1.rp rfl rfl rfl (fun _ _ h => h) (rp_field_ref Tryd.underlying54 rfl rfl rfl inf9 (by decide) rfl) ?_) | (refine AF1.rp rfl rfl rfl (fun _ _ h => h) (rp_field_ad Tryd.underlying54 rfl rfl rfl inf9 (by decide) rfl) ?_))
    (first | (refine AF1.rd rfl rfl rfl (fun _ _ h => h) (rd_load_ref Tryd.underlying9 rfl rfl rfl rfl rfl rfl) ?_) | (refine AF1.rd rfl rfl rfl (fun _ _ h => h) (rd_load_ad Tryd.underlying9 rfl rfl rfl rfl) ?_) | (refine AF1.rd rfl rfl rfl (fun _ _ h => h) (rd_load_map Tryd.underlying9 rfl rfl rfl rfl rfl rfl (by assumption)) ?_) | (refine AF1.rd rfl rfl rfl (fun _ _ h => h) (rd_load_flat Tryd.underlying9 rfl rfl rfl rfl rfl rfl (fun _ => rfl) (by assumption) rfl) ?_))
    refine AF1.rp rfl rfl rfl (fun _ _ h => h) (rp_adds rfl rfl rfl (by first | assumption | omega | (simp only [ByteArray.size_append]; omega))) ?_
    (first | (refine AF1.rp rfl rfl rfl (fun _ _ h => h) (rp_field_ref Tryd.underlying54 rfl rfl rfl inf3 (by decide) rfl) ?_) | (refine AF1.rp rfl rfl rfl (fun _ _ h => h) (rp_field_ad Tryd.underlying54 rfl rfl rfl inf3 (by decide) rfl) ?_))
    (first | (refine AF1.rd rfl rfl rfl (fun _ _ h => h) (rd_load_ref Tryd.underlying3 rfl rfl rfl rfl rfl rfl) ?_) | (refine AF1.rd rfl rfl rfl (fun _ _ h => h) (rd_load_ad Tryd.underlying3 rfl rfl rfl rfl) ?_) | (refine AF1.rd rfl rfl rfl (fun _ _ h => h) (rd_load_map Tryd.underlying3 rfl rfl rfl rfl rfl rfl (by assumption)) ?_) | (refine AF1.rd rfl rfl rfl (fun _ _ h => h) (rd_load_flat Tryd.underlying3 rfl rfl rfl rfl rfl rfl (fun _ => rfl) (by assumption) rfl) ?_))
    refine AF1.go ?_
    refine AF2.call (post := ?pc1) rfl rfl (sm_callP (args := [_]) (tab_kept _ _ _ _) (by assumption) ?hc1 ⟨Tryd.func20, rfl, rfl, rfl, rfl⟩ rfl rfl rfl rfl) ?_
    case hc1 => exact hit
    rintro _ rfl -
    try dsimp only
    refine AF2.rp rfl rfl rfl (fun _ _ h => h) (rp_adds rfl rfl rfl (by first | assumption | omega | (simp only [ByteArray.size_append]; omega))) ?_
    refine AF2.rp rfl rfl rfl (fun _ _ h => h) (rp_adds rfl rfl rfl (by first | assumption | omega | (simp only [ByteArray.size_append]; omega))) ?_
    refine AF2.go ?_
    try simp only [S.put, S.newObj, setL, V.cs, List.length_cons, List.length_nil, List.take_succ_cons, List.take_zero, List.drop_succ_cons, List.drop_zero, List.drop_nil, List.nil_append, List.cons_append, List.append_nil, Nat.zero_add, Nat.reduceAdd]
    refine AF3.pc rfl rfl [5, 13, 14, 15] (ts := [_, _, _, _]) (args := [_, _]) (post := ?pc2) ?hc2 rfl rfl rfl rfl rfl rfl rfl rfl rfl ?_
    case hc2 => (refine pc_WriteString bok false z (nmS (l.take k)) (x.t ++ ⟨#[32]⟩ ++ decS p ++ ⟨#[10]⟩) (lw7 x.t p ?_) z0' (by rw [hline]; omega) <;> first | rfl | (simp [V.lowL, V.low]; done))
    rintro _ _ _ ⟨rfl, rfl⟩
    simp only [back, S.put, List.cons_append, List.nil_append, List.zip_cons_cons, List.zip_nil_left, List.drop_succ_cons, List.drop_zero, List.length_cons, List.length_nil, Nat.zero_add, Nat.reduceAdd]
    refine AF3.nil ?_
    try simp only [thenS, S.put, S.newObj, setL, V.cs, List.length_cons, List.length_nil, List.take_succ_cons, List.take_zero, List.drop_succ_cons, List.drop_zero, List.drop_nil, List.nil_append, List.cons_append, List.append_nil, Nat.zero_add, Nat.reduceAdd, List.map_cons, List.map_nil, List.set_cons_zero, List.set_cons_succ]
    refine AW.region ?_
    refine AL.rp rfl rfl (rp_add rfl rfl rfl (by first | omega | (dsimp only; omega))) ?_
    refine AL.rp rfl rfl (rp_move rfl rfl) ?_
    refine AL.nil ?_
    try simp only [thenS, S.put]
    refine ⟨_, ?_, ⟨k + 1, true, false, by omega, by rw [hsn, ByteArray.size_append]; omega, ⟨fun h => (by cases h), fun h => by rw [hsn, ByteArray.size_append] at h; omega⟩, rfl⟩, ?_⟩
    ·rw [hsn, ← hline]
     exact (Less.of rfl (by repeat (first | exact trivial | refine ⟨⟨_, rfl, Wk.refl _⟩, ?_⟩ | refine ⟨⟨_, rfl, Wk.nil _ _⟩, ?_⟩ | refine ⟨⟨_, rfl, Wk.junk _⟩, ?_⟩)) (by repeat (first | exact trivial | refine ⟨rfl, ?_⟩)) rfl)
    ·simp [S.nat, fnd]; omega
   ·simp only [bH]
    refine AW.seq ?_
    refine AW.region ?_
    (first | (refine AL.rp rfl rfl (rp_lssT rfl rfl rfl (by first | assumption | omega | (dsimp only; omega))) ?_) | (refine AL.rp rfl rfl (rp_lssF rfl rfl rfl (by first | assumption | omega | (dsimp only; omega))) ?_) | (refine AL.rp rfl rfl (rp_lss rfl rfl rfl) ?_))
    refine AL.nil ?_
    try simp only [thenS, S.put]
    refine AW.seq ?_
    refine AW.condT rfl ?_
    refine AW.skip ?_
    try simp only [thenS]
    refine AW.seq ?_
    refine AW.block ?_
    refine AW.seq ?_
    refine AW.region ?_
    (first | (refine AL.rp rfl rfl (rp_index_map Tryd.underlying29 inf54 rfl rfl rfl rfl (by assumption)) ?_) | (refine AL.rp rfl rfl (rp_index_own Tryd.underlying29 inf54 rfl rfl rfl rfl (by first | assumption | omega)) ?_) | (refine AL.rp rfl rfl (rd_index_sl Tryd.underlying29 inf54 rfl rfl rfl rfl (by assumption)) ?_) | (refine AL.rp rfl rfl (rp_index_own Tryd.underlying29 inf54 rfl rfl rfl (by omega) (by omega)) ?_))
    (first | (refine AL.rd rfl rfl (rd_loads_ref Tryd.underlying54 rfl inf54 rfl rfl rfl rfl rfl rfl) ?_) | (refine AL.rd rfl rfl (rd_loads_ad Tryd.underlying54 rfl inf54 rfl rfl rfl rfl) ?_))
    refine AL.sm rfl (sm_alloc (l := [.d (.p (.string ⟨#[]⟩)), .d (.p (.int .i64 0))]) 7 inf54 rfl (by first | rfl | simp [S.clean, S.put, S.newObj, S.forget, V.has, V.hasL, junkIf, setL, V.cs, hasL_i, strV_has, hasL_vd, hasL_vdt, hasL_d, hasL_b, hasL_s, hasL_n, hasL_rep, hasL_flat, hasL_append, -List.map_set]) rfl rfl) ?_
    refine AL.st rfl (st_store_any inf54 rfl rfl rfl rfl rfl rfl rfl rfl (by first | decide | (simp; done) | (simp; omega)) rfl) ?_
    refine AL.nil ?_
    try simp only [thenS, S.put, S.newObj, setL, V.cs, List.length_cons, List.length_nil, List.take_succ_cons, List.take_zero, List.drop_succ_cons, List.drop_zero, List.drop_nil, List.nil_append, List.cons_append, List.append_nil, Nat.zero_add, Nat.reduceAdd, List.map_cons, List.map_nil, List.set_cons_zero, List.set_cons_succ]
    refine AW.less (s' := ⟨30, [(5, .ref 900 0), (13, .d (nmsD l)), (14, .i n), (15, .i k), (7, .ref 7 0)], bH 52 true z (nmS (l.take k)) [(7, ⟨54, [.s x.t, .i x.b], false, 0⟩)], []⟩) (Less.of rfl (by repeat (first | exact trivial | refine ⟨⟨_, rfl, Wk.refl _⟩, ?_⟩ | refine ⟨⟨_, rfl, Wk.nil _ _⟩, ?_⟩ | refine ⟨⟨_, rfl, Wk.junk _⟩, ?_⟩)) (by repeat (first | exact trivial | refine ⟨rfl, ?_⟩)) rfl) ?_
    rw [hp]
    refine AW.drawF [(0, 2), (1, 1), (2, 2), (3, 2), (4, 1), (5, 0), (6, 2), (7, 2), (8, 0)] (fun i => !([8] : List Nat).contains i) 9 (by kernel_rfl) (by kernel_rfl) rfl (by kernel_rfl) ?_
    (first | (refine AF1.rp rfl rfl rfl (fun _ _ h => h) (rp_field_ref Tryd.underlying54 rfl rfl rfl inf9 (by decide) rfl) ?_) | (refine AF1.rp rfl rfl rfl (fun _ _ h => h) (rp_field_ad Tryd.underlying54 rfl rfl rfl inf9 (by decide) rfl) ?_))
    (first | (refine AF1.rd rfl rfl rfl (fun _ _ h => h) (rd_load_ref Tryd.underlying9 rfl rfl rfl rfl rfl rfl) ?_) | (refine AF1.rd rfl rfl rfl (fun _ _ h => h) (rd_load_ad Tryd.underlying9 rfl rfl rfl rfl) ?_) | (refine AF1.rd rfl rfl rfl (fun _ _ h => h) (rd_load_map Tryd.underlying9 rfl rfl rfl rfl rfl rfl (by assumption)) ?_) | (refine AF1.rd rfl rfl rfl (fun _ _ h => h) (rd_load_flat Tryd.underlying9 rfl rfl rfl rfl rfl rfl (fun _ => rfl) (by assumption) rfl) ?_))
    refine AF1.rp rfl rfl rfl (fun _ _ h => h) (rp_adds rfl rfl rfl (by first | assumption | omega | (simp only [ByteArray.size_append]; omega))) ?_
    (first | (refine AF1.rp rfl rfl rfl (fun _ _ h => h) (rp_field_ref Tryd.underlying54 rfl rfl rfl inf3 (by decide) rfl) ?_) | (refine AF1.rp rfl rfl rfl (fun _ _ h => h) (rp_field_ad Tryd.underlying54 rfl rfl rfl inf3 (by decide) rfl) ?_))
    (first | (refine AF1.rd rfl rfl rfl (fun _ _ h => h) (rd_load_ref Tryd.underlying3 rfl rfl rfl rfl rfl rfl) ?_) | (refine AF1.rd rfl rfl rfl (fun _ _ h => h) (rd_load_ad Tryd.underlying3 rfl rfl rfl rfl) ?_) | (refine AF1.rd rfl rfl rfl (fun _ _ h => h) (rd_load_map Tryd.underlying3 rfl rfl rfl rfl rfl rfl (by assumption)) ?_) | (refine AF1.rd rfl rfl rfl (fun _ _ h => h) (rd_load_flat Tryd.underlying3 rfl rfl rfl rfl rfl rfl (fun _ => rfl) (by assumption) rfl) ?_))
    refine AF1.go ?_
    refine AF2.call (post := ?pc3) rfl rfl (sm_callP (args := [_]) (tab_kept _ _ _ _) (by assumption) ?hc3 ⟨Tryd.func20, rfl, rfl, rfl, rfl⟩ rfl rfl rfl rfl) ?_
    case hc3 => exact hit
    rintro _ rfl -
    try dsimp only
    refine AF2.rp rfl rfl rfl (fun _ _ h => h) (rp_adds rfl rfl rfl (by first | assumption | omega | (simp only [ByteArray.size_append]; omega))) ?_
    refine AF2.rp rfl rfl rfl (fun _ _ h => h) (rp_adds rfl rfl rfl (by first | assumption | omega | (simp only [ByteArray.size_append]; omega))) ?_
    refine AF2.go ?_
    try simp only [S.put, S.newObj, setL, V.cs, List.length_cons, List.length_nil, List.take_succ_cons, List.take_zero, List.drop_succ_cons, List.drop_zero, List.drop_nil, List.nil_append, List.cons_append, List.append_nil, Nat.zero_add, Nat.reduceAdd]
    refine AF3.pc rfl rfl [5, 13, 14, 15] (ts := [_, _, _, _]) (args := [_, _]) (post := ?pc4) ?hc4 rfl rfl rfl rfl rfl rfl rfl rfl rfl ?_
    case hc4 => (refine pc_WriteString bok true z (nmS (l.take k)) (x.t ++ ⟨#[32]⟩ ++ decS p ++ ⟨#[10]⟩) (lw7 x.t p ?_) z0' (by rw [hline]; omega) <;> first | rfl | (simp [V.lowL, V.low]; done))
    rintro _ _ _ ⟨rfl, rfl⟩
    simp only [back, S.put, List.cons_append, List.nil_append, List.zip_cons_cons, List.zip_nil_left, List.drop_succ_cons, List.drop_zero, List.length_cons, List.length_nil, Nat.zero_add, Nat.reduceAdd]
    refine AF3.nil ?_
    try simp only [thenS, S.put, S.newObj, setL, V.cs, List.length_cons, List.length_nil, List.take_succ_cons, List.take_zero, List.drop_succ_cons, List.drop_zero, List.drop_nil, List.nil_append, List.cons_append, List.append_nil, Nat.zero_add, Nat.reduceAdd, List.map_cons, List.map_nil, List.set_cons_zero, List.set_cons_succ]
    refine AW.region ?_
    refine AL.rp rfl rfl (rp_add rfl rfl rfl (by first | omega | (dsimp only; omega))) ?_
    refine AL.rp rfl rfl (rp_move rfl rfl) ?_
    refine AL.nil ?_
    try simp only [thenS, S.put]
    refine ⟨_, ?_, ⟨k + 1, true, false, by omega, by rw [hsn, ByteArray.size_append]; omega, ⟨fun h => (by cases h), fun h => by rw [hsn, ByteArray.size_append] at h; omega⟩, rfl⟩, ?_⟩
    ·rw [hsn, ← hline]
     exact (Less.of rfl (by repeat (first | exact trivial | refine ⟨⟨_, rfl, Wk.refl _⟩, ?_⟩ | refine ⟨⟨_, rfl, Wk.nil _ _⟩, ?_⟩ | refine ⟨⟨_, rfl, Wk.junk _⟩, ?_⟩)) (by repeat (first | exact trivial | refine ⟨rfl, ?_⟩)) rfl)
    ·simp [S.nat, fnd]; omega
  ·have hkn : k = n := by omega
   have hfull : l.take k = l := List.take_of_length_le (by omega)
   rw [hfull] at hsz hz ⊢
   refine AW.seq ?_
   refine AW.region ?_
   (first | (refine AL.rp rfl rfl (rp_lssT rfl rfl rfl (by first | assumption | omega | (dsimp only; omega))) ?_) | (refine AL.rp rfl rfl (rp_lssF rfl rfl rfl (by first | assumption | omega | (dsimp only; omega))) ?_) | (refine AL.rp rfl rfl (rp_lss rfl rfl rfl) ?_))
   refine AL.nil ?_
   try simp only [thenS, S.put]
   refine AW.seq ?_
   refine AW.condF rfl ?_
   refine AW.exit ?_
   try simp only [thenS, inBlockS, ↓reduceIte, Nat.reduceEqDiff]
   refine AW.seq ?_
   refine AW.region ?_
   try simp only [S.put, S.newObj, setL, V.cs, List.length_cons, List.length_nil, List.take_succ_cons, List.take_zero, List.drop_succ_cons, List.drop_zero, List.drop_nil, List.nil_append, List.cons_append, List.append_nil, Nat.zero_add, Nat.reduceAdd]
   refine AL.pc [] (ts := []) (args := [_]) (post := ?pc5) ?hc5 rfl rfl rfl rfl rfl rfl rfl rfl rfl ?_
   case hc5 => (refine pc_String z (nmS l) a (lw0 ?_) hz (by omega) <;> first | rfl | (simp [V.lowL, V.low]; done))
   rintro _ _ _ ⟨rfl, rfl, rfl⟩
   simp only [back, S.put, List.cons_append, List.nil_append, List.zip_cons_cons, List.zip_nil_left, List.drop_succ_cons, List.drop_zero, List.length_cons, List.length_nil, Nat.zero_add, Nat.reduceAdd]
   refine AL.rp rfl rfl (rp_assign rfl rfl) ?_
   refine AL.rp rfl rfl (rp_assign rfl rfl) ?_
   refine AL.nil ?_
   try simp only [thenS, S.put]
   refine AW.ret ?_
   exact ⟨[_, _], ⟨rfl, rfl, trivial⟩, rfl, by simp [tupOf, V.pure, V.has, V.hasL]⟩
 ·have hR : shN l = ⟨#[]⟩ := by unfold shN; rw [he, if_neg h0]
  rw [hR]
  clear he hR
  refine FnP.intro (n := 30) ⟨Tryd.func12, rfl, rfl, rfl, rfl⟩ (by simp [V.pure, V.has, V.hasL]) (by simp) fun w0 out hpre => ?_
  refine AW.seq ?_
  refine AW.region ?_
  refine AL.rp rfl rfl (rp_assign rfl rfl) ?_
  refine AL.rp rfl rfl (rp_assign rfl rfl) ?_
  refine AL.nil ?_
  try simp only [thenS, S.put, enum, List.nil_append, List.cons_append, List.append_nil, Nat.zero_add, Nat.reduceAdd]
  refine AW.seq ?_
  refine AW.seq ?_
  refine AW.region ?_
  refine AL.rp rfl rfl (rp_move rfl rfl) ?_
  refine AL.call (post := ?pc6) rfl (sm_call (args := [_]) ?hc6 ⟨Tryd.func26, rfl, rfl, rfl, rfl⟩ rfl rfl rfl rfl) ?_
  case hc6 => exact hcon
  rintro _ rfl -
  try dsimp only
  refine AL.rp rfl rfl (rp_assign rfl rfl) ?_
  refine AL.nil ?_
  try simp only [thenS, S.put, S.newObj, setL, V.cs, List.length_cons, List.length_nil, List.take_succ_cons, List.take_zero, List.drop_succ_cons, List.drop_zero, List.drop_nil, List.nil_append, List.cons_append, List.append_nil, Nat.zero_add, Nat.reduceAdd, List.map_cons, List.map_nil, List.set_cons_zero, List.set_cons_succ]
  refine AW.seq ?_
  refine AW.region ?_
  refine AL.rp rfl rfl (rp_move rfl rfl) ?_
  (first | (refine AL.rp rfl rfl (rp_neqT rfl rfl rfl (by first | assumption | omega | (dsimp only; omega))) ?_) | (refine AL.rp rfl rfl (rp_neqF rfl rfl rfl (by first | assumption | omega | (dsimp only; omega))) ?_) | (refine AL.rp rfl rfl (rp_neq rfl rfl rfl) ?_))
  refine AL.nil ?_
  try simp only [thenS, S.put]
  refine AW.condT rfl ?_
  refine AW.seq ?_
  refine AW.region ?_
  refine AL.rp rfl rfl (rp_move rfl rfl) ?_
  refine AL.rp rfl rfl (rp_assign rfl rfl) ?_
  refine AL.rp rfl rfl (rp_assign rfl rfl) ?_
  refine AL.nil ?_
  try simp only [thenS, S.put]
  refine AW.ret ?_
  exact ⟨[_, _], ⟨rfl, rfl, trivial⟩, rfl, by simp [tupOf, V.pure, V.has, V.hasL]⟩
end Go.Proofs.YthflidjnlnmbiaaDoor

namespace Go.Proofs.YthflidjnlnmbiaaDoor
open Go.RowKit
set_option linter.unusedSimpArgs false
set_option linter.unusedVariables false
set_option maxRecDepth 100000

set_option maxHeartbeats 1000000 in
theorem am_NShown (l : List Nm) : Fn Tryd.prog 13 [.d (nmsD l)] (fun v => v = .tup [.s (shN l), .i (nmF l)]) := by
 refine Fn.sl 0 rfl fun hb => ?_
 rw [List.length_map] at hb
 obtain ⟨e, he⟩ : ∃ e, nmF l = e := ⟨_, rfl⟩
 have hcon := am_NamesFault l
 rw [he] at hcon ⊢
 by_cases h0 : e = 0
 ·subst h0
  have hR : shN l = nmS l := by unfold shN; rw [if_pos he]
  rw [hR]
  obtain ⟨h100, hLab, hTxt, _⟩ := nmF_0 he
  clear he hR
  obtain ⟨n, hn⟩ : ∃ n, l.length = n := ⟨_, rfl⟩
  rw [hn] at h100 hLab hTxt hb
  refine Fn.intro (n := 35) ⟨Tryd.func13, rfl, rfl, rfl, rfl⟩ (by simp [V.pure, V.has, V.hasL]) (by simp) fun w0 out => ?_
  refine AW.seq ?_
  refine AW.region ?_
  refine AL.rp rfl rfl (rp_assign rfl rfl) ?_
  refine AL.rp rfl rfl (rp_assign rfl rfl) ?_
  refine AL.nil ?_
  try simp only [thenS, S.put, enum, List.nil_append, List.cons_append, List.append_nil, Nat.zero_add, Nat.reduceAdd]
  refine AW.seq ?_
  refine AW.region ?_
  refine AL.rp rfl rfl (rp_move rfl rfl) ?_
  refine AL.call (post := ?pc0) rfl (sm_call (args := [_]) ?hc0 ⟨Tryd.func29, rfl, rfl, rfl, rfl⟩ rfl rfl rfl rfl) ?_
  case hc0 => exact hcon
  rintro _ rfl -
  try dsimp only
  refine AL.rp rfl rfl (rp_assign rfl rfl) ?_
  refine AL.nil ?_
  try simp only [thenS, S.put, S.newObj, setL, V.cs, List.length_cons, List.length_nil, List.take_succ_cons, List.take_zero, List.drop_succ_cons, List.drop_zero, List.drop_nil, List.nil_append, List.cons_append, List.append_nil, Nat.zero_add, Nat.reduceAdd, List.map_cons, List.map_nil, List.set_cons_zero, List.set_cons_succ]
  refine AW.seq ?_
  refine AW.seq ?_
  refine AW.region ?_
  refine AL.rp rfl rfl (rp_move rfl rfl) ?_
  (first | (refine AL.rp rfl rfl (rp_neqT rfl rfl rfl (by first | assumption | omega | (dsimp only; omega))) ?_) | (refine AL.rp rfl rfl (rp_neqF rfl rfl rfl (by first | assumption | omega | (dsimp only; omega))) ?_) | (refine AL.rp rfl rfl (rp_neq rfl rfl rfl) ?_))
  refine AL.nil ?_
  try simp only [thenS, S.put]
  refine AW.condF rfl ?_
  refine AW.skip ?_
  try simp only [thenS]
  refine AW.seq ?_
  refine AW.region ?_
  refine AL.rp rfl rfl (rp_assign rfl rfl) ?_
  refine AL.nil ?_
  try simp only [thenS, S.put]
  refine AW.seq ?_
  refine AW.seq ?_
  refine AW.region ?_
  refine AL.rp rfl rfl (rp_assign rfl rfl) ?_
  refine AL.nil ?_
  try simp only [thenS, S.put]
  refine AW.block ?_
  refine AW.loop (fun s' => ∃ (k : Nat), k ≤ n ∧ (nmS (l.take k)).size ≤ 2000 * k ∧ s' = ⟨35, [(0, .d (nmsD l)), (5, .s (nmS (l.take k))), (6, .i k)], [], []⟩) (fun s' => n - s'.nat 6) ⟨_, ?_, 0, by omega, Nat.le_refl 0, rfl⟩ ?_
  ·exact (Less.of rfl (by repeat (first | exact trivial | refine ⟨⟨_, rfl, Wk.refl _⟩, ?_⟩ | refine ⟨⟨_, rfl, Wk.nil _ _⟩, ?_⟩ | refine ⟨⟨_, rfl, Wk.junk _⟩, ?_⟩)) (by repeat (first | exact trivial | refine ⟨rfl, ?_⟩)) rfl)
  rintro s' ⟨k, hk, hsz, rfl⟩
  by_cases hlt : k < n
  ·obtain ⟨x, hx⟩ := get_lt hn hlt
   obtain ⟨b1, b2⟩ := hLab k x hlt hx
   obtain ⟨z0, z1, z2, z3⟩ := nmLine_size (hTxt k x hlt hx) ⟨b1, b2⟩
   obtain ⟨⟨xt, xb⟩, rfl⟩ : ∃ y, y = x := ⟨x, rfl⟩
   simp only at b1 b2 z2 z3
   obtain ⟨p, rfl⟩ : ∃ p : Nat, xb = p := ⟨xb.toNat, by omega⟩
   have hit := am_Dec p (by omega)
   have hsn := nmS_snoc hx
   have hline : (nmS (l.take k)) ++ xt ++ ⟨#[32]⟩ ++ decS p ++ ⟨#[10]⟩ = nmS (l.take (k + 1)) := by
    rw [hsn]
    unfold nmLine
    simp only [Int.toNat_natCast, ByteArray.append_assoc]
   have hs32 : (⟨#[32]⟩ : ByteArray).size = 1 := rfl
   have hs10 : (⟨#[10]⟩ : ByteArray).size = 1 := rfl
   simp only [Int.toNat_natCast] at z3
   refine AW.seq ?_
   refine AW.seq ?_
   refine AW.region ?_
   refine AL.rp rfl rfl (rp_move rfl rfl) ?_
   refine AL.rp rfl rfl (rp_move rfl rfl) ?_
   (first | (refine AL.rp rfl rfl (rp_len_map Tryd.underlying29 rfl rfl (by assumption)) ?_) | (refine AL.rp rfl rfl (rp_len_own Tryd.underlying29 rfl rfl) ?_) | (refine AL.rp rfl rfl (rp_len_sl Tryd.underlying29 rfl rfl) ?_) | (refine AL.rp rfl rfl (rp_len_nil Tryd.underlying29 rfl rfl) ?_) | (refine AL.rp rfl rfl (rp_len_str Tryd.underlying29 rfl rfl) ?_))
   (first | (refine AL.rp rfl rfl (rp_lssT rfl rfl rfl (by first | assumption | omega | (dsimp only; omega))) ?_) | (refine AL.rp rfl rfl (rp_lssF rfl rfl rfl (by first | assumption | omega | (dsimp only; omega))) ?_) | (refine AL.rp rfl rfl (rp_lss rfl rfl rfl) ?_))
   refine AL.nil ?_
   try simp only [thenS, S.put]
   refine AW.condT rfl ?_
   refine AW.skip ?_
   try simp only [thenS]
   refine AW.seq ?_
   refine AW.block ?_
   refine AW.draw [(0, true), (1, true), (2, true), (3, true), (4, true), (5, true), (6, true), (7, true), (8, true), (9, true), (10, true), (11, true), (12, true), (13, false), (14, false), (15, false), (16, false)] (fun i => !([] : List Nat).contains i) 17 (by kernel_rfl) (by kernel_rfl) rfl (by kernel_rfl) ?_
   refine AD1.rp rfl rfl rfl (fun _ _ h => h) (rp_move rfl rfl) ?_
   refine AD1.rp rfl rfl rfl (fun _ _ h => h) (rp_move rfl rfl) ?_
   refine AD1.rp rfl rfl rfl (fun _ _ h => h) (rp_move rfl rfl) ?_
   (first | (refine AD1.rp rfl rfl rfl (fun _ _ h => h) (rp_index_map Tryd.underlying29 inf54 rfl rfl rfl rfl (by assumption)) ?_) | (refine AD1.rp rfl rfl rfl (fun _ _ h => h) (rp_index_own Tryd.underlying29 inf54 rfl rfl rfl rfl (by first | assumption | omega)) ?_) | (refine AD1.rp rfl rfl rfl (fun _ _ h => h) (rd_index_sl Tryd.underlying29 inf54 rfl rfl rfl rfl (by assumption)) ?_) | (refine AD1.rp rfl rfl rfl (fun _ _ h => h) (rp_index_own Tryd.underlying29 inf54 rfl rfl rfl (by omega) (by omega)) ?_))
   (first | (refine AD1.rp rfl rfl rfl (fun _ _ h => h) (rp_field_ref Tryd.underlying54 rfl rfl rfl inf9 (by decide) rfl) ?_) | (refine AD1.rp rfl rfl rfl (fun _ _ h => h) (rp_field_ad Tryd.underlying54 rfl rfl rfl inf9 (by decide) rfl) ?_))
   (first | (refine AD1.rd rfl rfl rfl (fun _ _ h => h) (rd_load_ref Tryd.underlying9 rfl rfl rfl rfl rfl rfl) ?_) | (refine AD1.rd rfl rfl rfl (fun _ _ h => h) (rd_load_ad Tryd.underlying9 rfl rfl rfl rfl) ?_) | (refine AD1.rd rfl rfl rfl (fun _ _ h => h) (rd_load_map Tryd.underlying9 rfl rfl rfl rfl rfl rfl (by assumption)) ?_) | (refine AD1.rd rfl rfl rfl (fun _ _ h => h) (rd_load_flat Tryd.underlying9 rfl rfl rfl rfl rfl rfl (fun _ => rfl) (by assumption) rfl) ?_))
   refine AD1.rp rfl rfl rfl (fun _ _ h => h) (rp_adds rfl rfl rfl (by first | assumption | omega | (simp only [ByteArray.size_append]; omega))) ?_
   refine AD1.rp rfl rfl rfl (fun _ _ h => h) (rp_adds rfl rfl rfl (by first | assumption | omega | (simp only [ByteArray.size_append]; omega))) ?_
   refine AD1.rp rfl rfl rfl (fun _ _ h => h) (rp_move rfl rfl) ?_
   refine AD1.rp rfl rfl rfl (fun _ _ h => h) (rp_move rfl rfl) ?_
   (first | (refine AD1.rp rfl rfl rfl (fun _ _ h => h) (rp_index_map Tryd.underlying29 inf54 rfl rfl rfl rfl (by assumption)) ?_) | (refine AD1.rp rfl rfl rfl (fun _ _ h => h) (rp_index_own Tryd.underlying29 inf54 rfl rfl rfl rfl (by first | assumption | omega)) ?_) | (refine AD1.rp rfl rfl rfl (fun _ _ h => h) (rd_index_sl Tryd.underlying29 inf54 rfl rfl rfl rfl (by assumption)) ?_) | (refine AD1.rp rfl rfl rfl (fun _ _ h => h) (rp_index_own Tryd.underlying29 inf54 rfl rfl rfl (by omega) (by omega)) ?_))
   (first | (refine AD1.rp rfl rfl rfl (fun _ _ h => h) (rp_field_ref Tryd.underlying54 rfl rfl rfl inf3 (by decide) rfl) ?_) | (refine AD1.rp rfl rfl rfl (fun _ _ h => h) (rp_field_ad Tryd.underlying54 rfl rfl rfl inf3 (by decide) rfl) ?_))
   (first | (refine AD1.rd rfl rfl rfl (fun _ _ h => h) (rd_load_ref Tryd.underlying3 rfl rfl rfl rfl rfl rfl) ?_) | (refine AD1.rd rfl rfl rfl (fun _ _ h => h) (rd_load_ad Tryd.underlying3 rfl rfl rfl rfl) ?_) | (refine AD1.rd rfl rfl rfl (fun _ _ h => h) (rd_load_map Tryd.underlying3 rfl rfl rfl rfl rfl rfl (by assumption)) ?_) | (refine AD1.rd rfl rfl rfl (fun _ _ h => h) (rd_load_flat Tryd.underlying3 rfl rfl rfl rfl rfl rfl (fun _ => rfl) (by assumption) rfl) ?_))
   refine AD1.go ?_
   refine AD2.call (post := ?pc1) rfl rfl (sm_call (args := [_]) ?hc1 ⟨Tryd.func22, rfl, rfl, rfl, rfl⟩ rfl rfl rfl rfl) ?_
   case hc1 => exact hit
   rintro _ rfl -
   try dsimp only
   refine AD2.rp1 rfl rfl rfl (rp_adds rfl rfl rfl (by first | assumption | omega | (simp only [ByteArray.size_append]; omega))) ?_
   refine AD2.rp1 rfl rfl rfl (rp_adds rfl rfl rfl (by first | assumption | omega | (simp only [ByteArray.size_append]; omega))) ?_
   refine AD2.rp1 rfl rfl rfl (rp_assign rfl rfl) ?_
   refine AD2.nil ?_
   try simp only [thenS, S.put, S.newObj, setL, V.cs, List.length_cons, List.length_nil, List.take_succ_cons, List.take_zero, List.drop_succ_cons, List.drop_zero, List.drop_nil, List.nil_append, List.cons_append, List.append_nil, Nat.zero_add, Nat.reduceAdd, List.map_cons, List.map_nil, List.set_cons_zero, List.set_cons_succ]
   refine AW.region ?_
   refine AL.rp rfl rfl (rp_move rfl rfl) ?_
   refine AL.rp rfl rfl (rp_add rfl rfl rfl (by first | omega | (dsimp only; omega))) ?_
   refine AL.rp rfl rfl (rp_assign rfl rfl) ?_
   refine AL.nil ?_
   try simp only [thenS, S.put]
   refine ⟨_, ?_, ⟨k + 1, by omega, by rw [hsn, ByteArray.size_append]; omega, rfl⟩, ?_⟩
   ·rw [← hline]
    exact (Less.of rfl (by repeat (first | exact trivial | refine ⟨⟨_, rfl, Wk.refl _⟩, ?_⟩ | refine ⟨⟨_, rfl, Wk.nil _ _⟩, ?_⟩ | refine ⟨⟨_, rfl, Wk.junk _⟩, ?_⟩)) (by repeat (first | exact trivial | refine ⟨rfl, ?_⟩)) rfl)
   ·simp [S.nat, fnd]; omega
  ·have hkn : k = n := by omega
   have hfull : l.take k = l := List.take_of_length_le (by omega)
   rw [hfull]
   refine AW.seq ?_
   refine AW.seq ?_
   refine AW.region ?_
   refine AL.rp rfl rfl (rp_move rfl rfl) ?_
   refine AL.rp rfl rfl (rp_move rfl rfl) ?_
   (first | (refine AL.rp rfl rfl (rp_len_map Tryd.underlying29 rfl rfl (by assumption)) ?_) | (refine AL.rp rfl rfl (rp_len_own Tryd.underlying29 rfl rfl) ?_) | (refine AL.rp rfl rfl (rp_len_sl Tryd.underlying29 rfl rfl) ?_) | (refine AL.rp rfl rfl (rp_len_nil Tryd.underlying29 rfl rfl) ?_) | (refine AL.rp rfl rfl (rp_len_str Tryd.underlying29 rfl rfl) ?_))
   (first | (refine AL.rp rfl rfl (rp_lssT rfl rfl rfl (by first | assumption | omega | (dsimp only; omega))) ?_) | (refine AL.rp rfl rfl (rp_lssF rfl rfl rfl (by first | assumption | omega | (dsimp only; omega))) ?_) | (refine AL.rp rfl rfl (rp_lss rfl rfl rfl) ?_))
   refine AL.nil ?_
   try simp only [thenS, S.put]
   refine AW.condF rfl ?_
   refine AW.exit ?_
   try simp only [thenS, inBlockS, ↓reduceIte, Nat.reduceEqDiff]
   refine AW.seq ?_
   refine AW.region ?_
   refine AL.rp rfl rfl (rp_move rfl rfl) ?_
   refine AL.rp rfl rfl (rp_assign rfl rfl) ?_
   refine AL.rp rfl rfl (rp_assign rfl rfl) ?_
   refine AL.nil ?_
   try simp only [thenS, S.put]
   refine AW.ret ?_
   exact ⟨[_, _], ⟨rfl, rfl, trivial⟩, rfl, by simp [tupOf, V.pure, V.has, V.hasL]⟩
 ·have hR : shN l = ⟨#[]⟩ := by unfold shN; rw [he, if_neg h0]
  rw [hR]
  clear he hR
  refine Fn.intro (n := 35) ⟨Tryd.func13, rfl, rfl, rfl, rfl⟩ (by simp [V.pure, V.has, V.hasL]) (by simp) fun w0 out => ?_
  refine AW.seq ?_
  refine AW.region ?_
  refine AL.rp rfl rfl (rp_assign rfl rfl) ?_
  refine AL.rp rfl rfl (rp_assign rfl rfl) ?_
  refine AL.nil ?_
  try simp only [thenS, S.put, enum, List.nil_append, List.cons_append, List.append_nil, Nat.zero_add, Nat.reduceAdd]
  refine AW.seq ?_
  refine AW.region ?_
  refine AL.rp rfl rfl (rp_move rfl rfl) ?_
  refine AL.call (post := ?pc2) rfl (sm_call (args := [_]) ?hc2 ⟨Tryd.func29, rfl, rfl, rfl, rfl⟩ rfl rfl rfl rfl) ?_
  case hc2 => exact hcon
  rintro _ rfl -
  try dsimp only
  refine AL.rp rfl rfl (rp_assign rfl rfl) ?_
  refine AL.nil ?_
  try simp only [thenS, S.put, S.newObj, setL, V.cs, List.length_cons, List.length_nil, List.take_succ_cons, List.take_zero, List.drop_succ_cons, List.drop_zero, List.drop_nil, List.nil_append, List.cons_append, List.append_nil, Nat.zero_add, Nat.reduceAdd, List.map_cons, List.map_nil, List.set_cons_zero, List.set_cons_succ]
  refine AW.seq ?_
  refine AW.seq ?_
  refine AW.region ?_
  refine AL.rp rfl rfl (rp_move rfl rfl) ?_
  (first | (refine AL.rp rfl rfl (rp_neqT rfl rfl rfl (by first | assumption | omega | (dsimp only; omega))) ?_) | (refine AL.rp rfl rfl (rp_neqF rfl rfl rfl (by first | assumption | omega | (dsimp only; omega))) ?_) | (refine AL.rp rfl rfl (rp_neq rfl rfl rfl) ?_))
  refine AL.nil ?_
  try simp only [thenS, S.put]
  refine AW.condT rfl ?_
  refine AW.seq ?_
  refine AW.region ?_
  refine AL.rp rfl rfl (rp_move rfl rfl) ?_
  refine AL.rp rfl rfl (rp_assign rfl rfl) ?_
  refine AL.rp rfl rfl (rp_assign rfl rfl) ?_
  refine AL.nil ?_
  try simp only [thenS, S.put]
  refine AW.ret ?_
  exact ⟨[_, _], ⟨rfl, rfl, trivial⟩, rfl, by simp [tupOf, V.pure, V.has, V.hasL]⟩
end Go.Proofs.YthflidjnlnmbiaaDoor

namespace Go.Proofs.YthflidjnlnmbiaaDoor
open Go.RowKit
set_option linter.unusedSimpArgs false
set_option linter.unusedVariables false
set_option maxRecDepth 100000

theorem cmp_neq_54F {c : Cx} {s : S} {o : Oper} {t' : TypeId} {x y : Operand} {a b : Nm} (hP : c.P = Tryd.prog) (ho : o.op = .binOp .neq 54 x y t') (hx : s.ev x = some (.agg ((nmD a).map V.d))) (hy : s.ev y = some (.agg ((nmD b).map V.d))) (h : a = b) : RP c o s (.b false) := by
 subst h
 refine rp_bin_agg [.string a.t, .int .i64 a.b] [.string a.t, .int .i64 a.b] ho hx hy (fun w => ?_) (fun w => ?_)
 ·rw [hP]; simp [go_sem]
 ·rw [hP]; simp [go_sem]
theorem am_clone (l : List Nm) : Fn Tryd.prog 11 [.d (nmsD l)] (fun v => v = .d (nmsD l)) := by
 refine Fn.sl 0 rfl fun hb => ?_
 rw [List.length_map] at hb
 have hrow : ∀ (r : List D), r ∈ l.map nmD → r.length = 2 ∧ ∀ (u : D), u ∈ r → u.one = true := by
  intro r hr
  obtain ⟨x, _, rfl⟩ := List.mem_map.1 hr
  refine ⟨rfl, fun u hu => ?_⟩
  simp only [nmD, List.mem_cons, List.not_mem_nil, or_false] at hu
  rcases hu with rfl | rfl <;> rfl
 refine Fn.intro (n := 5) ⟨Tryd.func11, rfl, rfl, rfl, rfl⟩ (by simp [V.pure, V.has, V.hasL]) (by simp) fun w0 out => ?_
 refine AW.seq ?_
 refine AW.region ?_
 refine AL.rp rfl rfl (rp_assign rfl rfl) ?_
 refine AL.nil ?_
 try simp only [thenS, S.put, enum, List.nil_append, List.cons_append, List.append_nil, Nat.zero_add, Nat.reduceAdd]
 refine AW.seq ?_
 refine AW.region ?_
 refine AL.rp rfl rfl (rp_move rfl rfl) ?_
 refine AL.sm rfl (sm_clone Tryd.underlying29 inf54 rfl (by decide) (by decide) (by decide) rfl rfl rfl (by first | (simp [arD, D.one, Value.oneCell']; done) | assumption) rfl) ?_
 refine AL.rp rfl rfl (rp_assign rfl rfl) ?_
 refine AL.nil ?_
 try simp only [thenS, S.put, S.newObj, setL, V.cs, List.length_cons, List.length_nil, List.take_succ_cons, List.take_zero, List.drop_succ_cons, List.drop_zero, List.drop_nil, List.nil_append, List.cons_append, List.append_nil, Nat.zero_add, Nat.reduceAdd, List.map_cons, List.map_nil, List.set_cons_zero, List.set_cons_succ]
 refine AW.ret ?_
 exact ⟨[_], ⟨rfl, trivial⟩, rfl, by simp [tupOf, V.pure, V.has]⟩
theorem am_sameNames (l : List Nm) : Fn Tryd.prog 14 [.d (nmsD l), .d (nmsD l)] (fun v => v = .b true) := by
 refine Fn.sl 0 rfl fun hb => ?_
 obtain ⟨n, hn⟩ : ∃ n, l.length = n := ⟨_, rfl⟩
 rw [List.length_map, hn] at hb
 refine Fn.intro (n := 26) ⟨Tryd.func14, rfl, rfl, rfl, rfl⟩ (by simp [V.pure, V.has, V.hasL]) (by simp) fun w0 out => ?_
 refine AW.seq ?_
 refine AW.region ?_
 refine AL.rp rfl rfl (rp_assign rfl rfl) ?_
 refine AL.nil ?_
 try simp only [thenS, S.put, enum, List.nil_append, List.cons_append, List.append_nil, Nat.zero_add, Nat.reduceAdd]
 refine AW.seq ?_
 refine AW.seq ?_
 refine AW.region ?_
 refine AL.rp rfl rfl (rp_move rfl rfl) ?_
 (first | (refine AL.rp rfl rfl (rp_len_map Tryd.underlying29 rfl rfl (by assumption)) ?_) | (refine AL.rp rfl rfl (rp_len_own Tryd.underlying29 rfl rfl) ?_) | (refine AL.rp rfl rfl (rp_len_sl Tryd.underlying29 rfl rfl) ?_) | (refine AL.rp rfl rfl (rp_len_nil Tryd.underlying29 rfl rfl) ?_) | (refine AL.rp rfl rfl (rp_len_str Tryd.underlying29 rfl rfl) ?_))
 refine AL.rp rfl rfl (rp_move rfl rfl) ?_
 (first | (refine AL.rp rfl rfl (rp_len_map Tryd.underlying29 rfl rfl (by assumption)) ?_) | (refine AL.rp rfl rfl (rp_len_own Tryd.underlying29 rfl rfl) ?_) | (refine AL.rp rfl rfl (rp_len_sl Tryd.underlying29 rfl rfl) ?_) | (refine AL.rp rfl rfl (rp_len_nil Tryd.underlying29 rfl rfl) ?_) | (refine AL.rp rfl rfl (rp_len_str Tryd.underlying29 rfl rfl) ?_))
 (first | (refine AL.rp rfl rfl (rp_neqT rfl rfl rfl (by first | assumption | omega | (dsimp only; omega))) ?_) | (refine AL.rp rfl rfl (rp_neqF rfl rfl rfl (by first | assumption | omega | (dsimp only; omega))) ?_) | (refine AL.rp rfl rfl (rp_neq rfl rfl rfl) ?_))
 refine AL.nil ?_
 try simp only [thenS, S.put]
 refine AW.condF rfl ?_
 refine AW.skip ?_
 try simp only [thenS]
 refine AW.seq ?_
 refine AW.seq ?_
 refine AW.region ?_
 refine AL.rp rfl rfl (rp_assign rfl rfl) ?_
 refine AL.nil ?_
 try simp only [thenS, S.put]
 refine AW.block ?_
 refine AW.loop (fun s' => ∃ k : Nat, k ≤ n ∧ s' = ⟨26, [(0, .d (nmsD l)), (1, .d (nmsD l)), (5, .i k)], [], []⟩) (fun s' => n - s'.nat 5) ⟨_, ?_, 0, by omega, rfl⟩ ?_
 ·exact (Less.of rfl (by repeat (first | exact trivial | refine ⟨⟨_, rfl, Wk.refl _⟩, ?_⟩ | refine ⟨⟨_, rfl, Wk.nil _ _⟩, ?_⟩ | refine ⟨⟨_, rfl, Wk.junk _⟩, ?_⟩)) (by repeat (first | exact trivial | refine ⟨rfl, ?_⟩)) rfl)
 rintro s' ⟨k, hk, rfl⟩
 by_cases hlt : k < n
 ·obtain ⟨x, hx⟩ := get_lt hn hlt
  refine AW.seq ?_
  refine AW.seq ?_
  refine AW.region ?_
  refine AL.rp rfl rfl (rp_move rfl rfl) ?_
  refine AL.rp rfl rfl (rp_move rfl rfl) ?_
  (first | (refine AL.rp rfl rfl (rp_len_map Tryd.underlying29 rfl rfl (by assumption)) ?_) | (refine AL.rp rfl rfl (rp_len_own Tryd.underlying29 rfl rfl) ?_) | (refine AL.rp rfl rfl (rp_len_sl Tryd.underlying29 rfl rfl) ?_) | (refine AL.rp rfl rfl (rp_len_nil Tryd.underlying29 rfl rfl) ?_) | (refine AL.rp rfl rfl (rp_len_str Tryd.underlying29 rfl rfl) ?_))
  (first | (refine AL.rp rfl rfl (rp_lssT rfl rfl rfl (by first | assumption | omega | (dsimp only; omega))) ?_) | (refine AL.rp rfl rfl (rp_lssF rfl rfl rfl (by first | assumption | omega | (dsimp only; omega))) ?_) | (refine AL.rp rfl rfl (rp_lss rfl rfl rfl) ?_))
  refine AL.nil ?_
  try simp only [thenS, S.put]
  refine AW.condT rfl ?_
  refine AW.skip ?_
  try simp only [thenS]
  refine AW.seq ?_
  refine AW.block ?_
  refine AW.seq ?_
  refine AW.draw [(0, true), (1, true), (2, true), (3, true), (4, true), (5, true), (6, true), (7, true), (8, true)] (fun i => !([] : List Nat).contains i) 9 (by kernel_rfl) (by kernel_rfl) rfl (by kernel_rfl) ?_
  refine AD1.rp rfl rfl rfl (fun _ _ h => h) (rp_move rfl rfl) ?_
  refine AD1.rp rfl rfl rfl (fun _ _ h => h) (rp_move rfl rfl) ?_
  (first | (refine AD1.rp rfl rfl rfl (fun _ _ h => h) (rp_index_map Tryd.underlying29 inf54 rfl rfl rfl rfl (by assumption)) ?_) | (refine AD1.rp rfl rfl rfl (fun _ _ h => h) (rp_index_own Tryd.underlying29 inf54 rfl rfl rfl rfl (by first | assumption | omega)) ?_) | (refine AD1.rp rfl rfl rfl (fun _ _ h => h) (rd_index_sl Tryd.underlying29 inf54 rfl rfl rfl rfl (by assumption)) ?_) | (refine AD1.rp rfl rfl rfl (fun _ _ h => h) (rp_index_own Tryd.underlying29 inf54 rfl rfl rfl (by omega) (by omega)) ?_))
  (first | (refine AD1.rd rfl rfl rfl (fun _ _ h => h) (rd_loads_ref Tryd.underlying54 rfl inf54 rfl rfl rfl rfl rfl rfl) ?_) | (refine AD1.rd rfl rfl rfl (fun _ _ h => h) (rd_loads_ad Tryd.underlying54 rfl inf54 rfl rfl rfl rfl) ?_))
  refine AD1.rp rfl rfl rfl (fun _ _ h => h) (rp_move rfl rfl) ?_
  refine AD1.rp rfl rfl rfl (fun _ _ h => h) (rp_move rfl rfl) ?_
  (first | (refine AD1.rp rfl rfl rfl (fun _ _ h => h) (rp_index_map Tryd.underlying29 inf54 rfl rfl rfl rfl (by assumption)) ?_) | (refine AD1.rp rfl rfl rfl (fun _ _ h => h) (rp_index_own Tryd.underlying29 inf54 rfl rfl rfl rfl (by first | assumption | omega)) ?_) | (refine AD1.rp rfl rfl rfl (fun _ _ h => h) (rd_index_sl Tryd.underlying29 inf54 rfl rfl rfl rfl (by assumption)) ?_) | (refine AD1.rp rfl rfl rfl (fun _ _ h => h) (rp_index_own Tryd.underlying29 inf54 rfl rfl rfl (by omega) (by omega)) ?_))
  (first | (refine AD1.rd rfl rfl rfl (fun _ _ h => h) (rd_loads_ref Tryd.underlying54 rfl inf54 rfl rfl rfl rfl rfl rfl) ?_) | (refine AD1.rd rfl rfl rfl (fun _ _ h => h) (rd_loads_ad Tryd.underlying54 rfl inf54 rfl rfl rfl rfl) ?_))
  refine AD1.rp rfl rfl rfl (fun _ _ h => h) (cmp_neq_54F rfl rfl rfl rfl (by first | assumption | rfl)) ?_
  refine AD1.nil ?_
  try simp only [thenS, S.put]
  refine AW.condF rfl ?_
  refine AW.skip ?_
  try simp only [thenS]
  refine AW.region ?_
  refine AL.rp rfl rfl (rp_move rfl rfl) ?_
  refine AL.rp rfl rfl (rp_add rfl rfl rfl (by first | omega | (dsimp only; omega))) ?_
  refine AL.rp rfl rfl (rp_assign rfl rfl) ?_
  refine AL.nil ?_
  try simp only [thenS, S.put]
  refine ⟨_, ?_, ⟨k + 1, by omega, rfl⟩, ?_⟩
  ·exact (Less.of rfl (by repeat (first | exact trivial | refine ⟨⟨_, rfl, Wk.refl _⟩, ?_⟩ | refine ⟨⟨_, rfl, Wk.nil _ _⟩, ?_⟩ | refine ⟨⟨_, rfl, Wk.junk _⟩, ?_⟩)) (by repeat (first | exact trivial | refine ⟨rfl, ?_⟩)) rfl)
  ·simp [S.nat, fnd]; omega
 ·skip
  refine AW.seq ?_
  refine AW.seq ?_
  refine AW.region ?_
  refine AL.rp rfl rfl (rp_move rfl rfl) ?_
  refine AL.rp rfl rfl (rp_move rfl rfl) ?_
  (first | (refine AL.rp rfl rfl (rp_len_map Tryd.underlying29 rfl rfl (by assumption)) ?_) | (refine AL.rp rfl rfl (rp_len_own Tryd.underlying29 rfl rfl) ?_) | (refine AL.rp rfl rfl (rp_len_sl Tryd.underlying29 rfl rfl) ?_) | (refine AL.rp rfl rfl (rp_len_nil Tryd.underlying29 rfl rfl) ?_) | (refine AL.rp rfl rfl (rp_len_str Tryd.underlying29 rfl rfl) ?_))
  (first | (refine AL.rp rfl rfl (rp_lssT rfl rfl rfl (by first | assumption | omega | (dsimp only; omega))) ?_) | (refine AL.rp rfl rfl (rp_lssF rfl rfl rfl (by first | assumption | omega | (dsimp only; omega))) ?_) | (refine AL.rp rfl rfl (rp_lss rfl rfl rfl) ?_))
  refine AL.nil ?_
  try simp only [thenS, S.put]
  refine AW.condF rfl ?_
  refine AW.exit ?_
  try simp only [thenS, inBlockS, ↓reduceIte, Nat.reduceEqDiff]
  refine AW.seq ?_
  refine AW.region ?_
  refine AL.rp rfl rfl (rp_assign rfl rfl) ?_
  refine AL.nil ?_
  try simp only [thenS, S.put]
  refine AW.ret ?_
  exact ⟨[_], ⟨rfl, trivial⟩, rfl, by simp [tupOf, V.pure, V.has]⟩
def nmCells (c : Nm) : List Value := [.string c.t, .int .i64 c.b]
theorem nmCells_len (c : Nm) : (nmCells c).length = 2 := rfl
def NamesAt (w : World) (v : Value) (l : List Nm) : Prop := SlAt w 2 24 nmCells v l
theorem rep_names {w : World} {q : Nat → Prop} {g : Nat → Nat × Nat} {v : Value} {l : List Nm} (h : NamesAt w v l) (hq : ∀ b, q b) : VRep w q g (.d (nmsD l)) v :=
 .d _ _ (DRep.of_sl h hq (by omega) (fun _ => Nat.le_refl 2) nmCells_len (fun x _ j u y hu hy => by
  match j, hu, hy with
  | 0, hu, hy => simp [nmD, nmCells] at hu hy; subst hu hy; exact .p _
  | 1, hu, hy => simp [nmD, nmCells] at hu hy; subst hu hy; exact .p _
  | n + 2, hu, hy => simp [nmD] at hu))
section
open Go.ChangeShapes Go.WideShapes Go.ChangeAt Go.Deep Go.Joins
variable {H : Type} {enc : TypeId × Value → H} {w : World} {base : Nat} {spare : Nat → Bool} {held : Bool}
theorem elem_name : ∀ n cs y q, DataW.trod enc Tryd.prog w base spare held n 54 cs = some (y, q) → Fits Tryd.prog 54 y → cs.length = 2 → ∃ x, cs = nmCells x ∧ True := by
 intro n cs y q h _ hl
 obtain ⟨y0, y1, m, _, _, h0, h1⟩ := trod_struct2 Tryd.underlying54 h
 match cs, hl with
 | [c0, c1], _ =>
  have k : Tryd.prog.cellsOf 9 = 1 := by kernel_rfl
  have k3 : Tryd.prog.cellsOf 3 = 1 := by kernel_rfl
  simp only [k, k3, List.drop_zero, List.drop_succ_cons, List.take_succ_cons, List.take_zero] at h0 h1
  obtain ⟨n0, e0, _, _⟩ := DataW.trod_string Tryd.underlying9 h0
  obtain ⟨n1, e1, _, _⟩ := DataW.trod_int Tryd.underlying3 h1
  simp only [List.cons.injEq, and_true] at e0 e1
  subst e0 e1
  exact ⟨⟨n0, n1⟩, rfl, trivial⟩
theorem open_names {fuel : Nat} {v : Value} {d : DataW H} {p : List MemPlace} (h : DataW.trod enc Tryd.prog w base spare held fuel 29 [v] = some (d, p)) (fit : Fits Tryd.prog 29 d) : ∃ l, NamesAt w v l := by
 obtain ⟨l, h1, _⟩ := open_sl Tryd.underlying29 (by kernel_rfl) (by omega) (by kernel_rfl) nmCells (fun _ => True) elem_name h fit
 exact ⟨l, h1⟩
end
end Go.Proofs.YthflidjnlnmbiaaDoor
