/- Part 10 of what the law ScriptReads rests on. -/
import Derived.OrdersIn
import Derived.Test.YtlgnjehfojogmaaDoorPkSc1
import Derived.Test.YtlgnjehfojogmaaDoorPkSc2
import Derived.Test.YtlgnjehfojogmaaDoorPkSc3
import Derived.Test.YtlgnjehfojogmaaDoorPkSc4
import Derived.Test.YtlgnjehfojogmaaDoorPkSc5
import Derived.Test.YtlgnjehfojogmaaDoorPkSc6
import Derived.Test.YtlgnjehfojogmaaDoorPkSc7
import Derived.Test.YtlgnjehfojogmaaDoorPkSc8
import Derived.Test.YtlgnjehfojogmaaDoorPkSc9
namespace Go.Proofs.YtlgnjehfojogmaaDoor
open Go.RowKit
set_option linter.unusedSimpArgs false
set_option linter.unusedVariables false
set_option maxRecDepth 100000

def letW : List UInt8 → Int
 | [b] => if 97 ≤ b.toNat ∧ b.toNat ≤ 122 then (b.toNat : Int) - 97 else -1
 | _ => -1
theorem letW_no {w : List UInt8} (h : w.length ≠ 1) : letW w = -1 := by
 match w, h with
 | [], _ => rfl
 | [_], h => exact absurd rfl h
 | _ :: _ :: _, _ => rfl
theorem am_letter (w : List UInt8) : Fn Tryd.prog 53 [.s (bs w)] (fun v => v = .i (letW w)) := by
 have hwz := bs_size w
 by_cases h1 : w.length = 1
 ·obtain ⟨b, rfl⟩ : ∃ b, w = [b] := List.length_eq_one_iff.1 h1
  have hb0 : (bs [b]).data.toList[0]? = some b := rfl
  have hlo := b.toNat_lt
  by_cases hs : b.toNat < 97
  ·have hR : letW [b] = -1 := if_neg (by omega)
   rw [hR]
   refine Fn.intro (n := 20) ⟨Tryd.func53, rfl, rfl, rfl, rfl⟩ (by simp [V.pure, V.has, V.hasL]) (by simp) fun w0 out => ?_
   refine AW.seq ?_
   refine AW.region ?_
   refine AL.rp rfl rfl (rp_assign rfl rfl) ?_
   refine AL.nil ?_
   try simp only [thenS, S.put, enum, List.nil_append, List.cons_append, List.append_nil, Nat.zero_add, Nat.reduceAdd]
   refine AW.seq ?_
   refine AW.seq ?_
   refine AW.region ?_
   refine AL.rp rfl rfl (rp_move rfl rfl) ?_
   (first | (refine AL.rp rfl rfl (rp_len_map Tryd.underlying9 rfl rfl (by assumption)) ?_) | (refine AL.rp rfl rfl (rp_len_own Tryd.underlying9 rfl rfl) ?_) | (refine AL.rp rfl rfl (rp_len_sl Tryd.underlying9 rfl rfl) ?_) | (refine AL.rp rfl rfl (rp_len_nil Tryd.underlying9 rfl rfl) ?_) | (refine AL.rp rfl rfl (rp_len_str Tryd.underlying9 rfl rfl) ?_))
   (first | (refine AL.rp rfl rfl (rp_neqT rfl rfl rfl (by first | assumption | omega | (dsimp only; omega))) ?_) | (refine AL.rp rfl rfl (rp_neqF rfl rfl rfl (by first | assumption | omega | (dsimp only; omega))) ?_) | (refine AL.rp rfl rfl (rp_neq rfl rfl rfl) ?_))
   refine AL.rp rfl rfl (rp_move rfl rfl) ?_
   (first | (refine AL.noV rfl rfl rfl rfl ?_) | (refine AL.noU rfl ⟨_, rfl, rfl⟩ rfl ?_) | (refine AL.rpy rfl rfl rfl (rp_move rfl rfl) ?_))
   (first | (refine AL.noV rfl rfl rfl rfl ?_) | (refine AL.noU rfl ⟨_, rfl, rfl⟩ rfl ?_) | (refine AL.rpy rfl rfl rfl (rp_index_str Tryd.underlying9 rfl rfl rfl (by first | rfl | omega) (by assumption)) ?_))
   (first | (refine AL.noV rfl rfl rfl rfl ?_) | (refine AL.noU rfl ⟨_, rfl, rfl⟩ rfl ?_) | (refine AL.rpy rfl rfl rfl (rp_lssT rfl rfl rfl (by first | assumption | omega | (dsimp only; omega))) ?_) | (refine AL.rpy rfl rfl rfl (rp_lssF rfl rfl rfl (by first | assumption | omega | (dsimp only; omega))) ?_) | (refine AL.rpy rfl rfl rfl (rp_lss rfl rfl rfl) ?_))
   refine AL.rp rfl rfl (rp_pick rfl rfl rfl) ?_
   refine AL.rp rfl rfl (rp_move rfl rfl) ?_
   (first | (refine AL.noV rfl rfl rfl rfl ?_) | (refine AL.noU rfl ⟨_, rfl, rfl⟩ rfl ?_) | (refine AL.rpy rfl rfl rfl (rp_move rfl rfl) ?_))
   (first | (refine AL.noV rfl rfl rfl rfl ?_) | (refine AL.noU rfl ⟨_, rfl, rfl⟩ rfl ?_) | (refine AL.rpy rfl rfl rfl (rp_index_str Tryd.underlying9 rfl rfl rfl (by first | rfl | omega) (by assumption)) ?_))
   (first | (refine AL.noV rfl rfl rfl rfl ?_) | (refine AL.noU rfl ⟨_, rfl, rfl⟩ rfl ?_) | (refine AL.rpy rfl rfl rfl (rp_gtrT rfl rfl rfl (by first | assumption | omega | (dsimp only; omega))) ?_) | (refine AL.rpy rfl rfl rfl (rp_gtrF rfl rfl rfl (by first | assumption | omega | (dsimp only; omega))) ?_) | (refine AL.rpy rfl rfl rfl (rp_gtr rfl rfl rfl) ?_))
   refine AL.rp rfl rfl (rp_pick rfl rfl rfl) ?_
   refine AL.nil ?_
   try simp only [thenS, S.put]
   refine AW.condT rfl ?_
   refine AW.seq ?_
   refine AW.region ?_
   refine AL.rp rfl rfl (rp_assign rfl rfl) ?_
   refine AL.nil ?_
   try simp only [thenS, S.put]
   refine AW.ret ?_
   exact ⟨[_], ⟨rfl, trivial⟩, rfl, by simp [tupOf, V.pure, V.has, V.hasL]⟩
  ·by_cases hb : 122 < b.toNat
   ·have hR : letW [b] = -1 := if_neg (by omega)
    rw [hR]
    refine Fn.intro (n := 20) ⟨Tryd.func53, rfl, rfl, rfl, rfl⟩ (by simp [V.pure, V.has, V.hasL]) (by simp) fun w0 out => ?_
    refine AW.seq ?_
    refine AW.region ?_
    refine AL.rp rfl rfl (rp_assign rfl rfl) ?_
    refine AL.nil ?_
    try simp only [thenS, S.put, enum, List.nil_append, List.cons_append, List.append_nil, Nat.zero_add, Nat.reduceAdd]
    refine AW.seq ?_
    refine AW.seq ?_
    refine AW.region ?_
    refine AL.rp rfl rfl (rp_move rfl rfl) ?_
    (first | (refine AL.rp rfl rfl (rp_len_map Tryd.underlying9 rfl rfl (by assumption)) ?_) | (refine AL.rp rfl rfl (rp_len_own Tryd.underlying9 rfl rfl) ?_) | (refine AL.rp rfl rfl (rp_len_sl Tryd.underlying9 rfl rfl) ?_) | (refine AL.rp rfl rfl (rp_len_nil Tryd.underlying9 rfl rfl) ?_) | (refine AL.rp rfl rfl (rp_len_str Tryd.underlying9 rfl rfl) ?_))
    (first | (refine AL.rp rfl rfl (rp_neqT rfl rfl rfl (by first | assumption | omega | (dsimp only; omega))) ?_) | (refine AL.rp rfl rfl (rp_neqF rfl rfl rfl (by first | assumption | omega | (dsimp only; omega))) ?_) | (refine AL.rp rfl rfl (rp_neq rfl rfl rfl) ?_))
    refine AL.rp rfl rfl (rp_move rfl rfl) ?_
    (first | (refine AL.noV rfl rfl rfl rfl ?_) | (refine AL.noU rfl ⟨_, rfl, rfl⟩ rfl ?_) | (refine AL.rpy rfl rfl rfl (rp_move rfl rfl) ?_))
    (first | (refine AL.noV rfl rfl rfl rfl ?_) | (refine AL.noU rfl ⟨_, rfl, rfl⟩ rfl ?_) | (refine AL.rpy rfl rfl rfl (rp_index_str Tryd.underlying9 rfl rfl rfl (by first | rfl | omega) (by assumption)) ?_))
    (first | (refine AL.noV rfl rfl rfl rfl ?_) | (refine AL.noU rfl ⟨_, rfl, rfl⟩ rfl ?_) | (refine AL.rpy rfl rfl rfl (rp_lssT rfl rfl rfl (by first | assumption | omega | (dsimp only; omega))) ?_) | (refine AL.rpy rfl rfl rfl (rp_lssF rfl rfl rfl (by first | assumption | omega | (dsimp only; omega))) ?_) | (refine AL.rpy rfl rfl rfl (rp_lss rfl rfl rfl) ?_))
    refine AL.rp rfl rfl (rp_pick rfl rfl rfl) ?_
    refine AL.rp rfl rfl (rp_move rfl rfl) ?_
    (first | (refine AL.noV rfl rfl rfl rfl ?_) | (refine AL.noU rfl ⟨_, rfl, rfl⟩ rfl ?_) | (refine AL.rpy rfl rfl rfl (rp_move rfl rfl) ?_))
    (first | (refine AL.noV rfl rfl rfl rfl ?_) | (refine AL.noU rfl ⟨_, rfl, rfl⟩ rfl ?_) | (refine AL.rpy rfl rfl rfl (rp_index_str Tryd.underlying9 rfl rfl rfl (by first | rfl | omega) (by assumption)) ?_))
    (first | (refine AL.noV rfl rfl rfl rfl ?_) | (refine AL.noU rfl ⟨_, rfl, rfl⟩ rfl ?_) | (refine AL.rpy rfl rfl rfl (rp_gtrT rfl rfl rfl (by first | assumption | omega | (dsimp only; omega))) ?_) | (refine AL.rpy rfl rfl rfl (rp_gtrF rfl rfl rfl (by first | assumption | omega | (dsimp only; omega))) ?_) | (refine AL.rpy rfl rfl rfl (rp_gtr rfl rfl rfl) ?_))
    refine AL.rp rfl rfl (rp_pick rfl rfl rfl) ?_
    refine AL.nil ?_
    try simp only [thenS, S.put]
    refine AW.condT rfl ?_
    refine AW.seq ?_
    refine AW.region ?_
    refine AL.rp rfl rfl (rp_assign rfl rfl) ?_
    refine AL.nil ?_
    try simp only [thenS, S.put]
    refine AW.ret ?_
    exact ⟨[_], ⟨rfl, trivial⟩, rfl, by simp [tupOf, V.pure, V.has, V.hasL]⟩
   ·have hR : letW [b] = (b.toNat : Int) - 97 := if_pos (by omega)
    rw [hR]
    refine Fn.intro (n := 20) ⟨Tryd.func53, rfl, rfl, rfl, rfl⟩ (by simp [V.pure, V.has, V.hasL]) (by simp) fun w0 out => ?_
    refine AW.seq ?_
    refine AW.region ?_
    refine AL.rp rfl rfl (rp_assign rfl rfl) ?_
    refine AL.nil ?_
    try simp only [thenS, S.put, enum, List.nil_append, List.cons_append, List.append_nil, Nat.zero_add, Nat.reduceAdd]
    refine AW.seq ?_
    refine AW.seq ?_
    refine AW.region ?_
    refine AL.rp rfl rfl (rp_move rfl rfl) ?_
    (first | (refine AL.rp rfl rfl (rp_len_map Tryd.underlying9 rfl rfl (by assumption)) ?_) | (refine AL.rp rfl rfl (rp_len_own Tryd.underlying9 rfl rfl) ?_) | (refine AL.rp rfl rfl (rp_len_sl Tryd.underlying9 rfl rfl) ?_) | (refine AL.rp rfl rfl (rp_len_nil Tryd.underlying9 rfl rfl) ?_) | (refine AL.rp rfl rfl (rp_len_str Tryd.underlying9 rfl rfl) ?_))
    (first | (refine AL.rp rfl rfl (rp_neqT rfl rfl rfl (by first | assumption | omega | (dsimp only; omega))) ?_) | (refine AL.rp rfl rfl (rp_neqF rfl rfl rfl (by first | assumption | omega | (dsimp only; omega))) ?_) | (refine AL.rp rfl rfl (rp_neq rfl rfl rfl) ?_))
    refine AL.rp rfl rfl (rp_move rfl rfl) ?_
    (first | (refine AL.noV rfl rfl rfl rfl ?_) | (refine AL.noU rfl ⟨_, rfl, rfl⟩ rfl ?_) | (refine AL.rpy rfl rfl rfl (rp_move rfl rfl) ?_))
    (first | (refine AL.noV rfl rfl rfl rfl ?_) | (refine AL.noU rfl ⟨_, rfl, rfl⟩ rfl ?_) | (refine AL.rpy rfl rfl rfl (rp_index_str Tryd.underlying9 rfl rfl rfl (by first | rfl | omega) (by assumption)) ?_))
    (first | (refine AL.noV rfl rfl rfl rfl ?_) | (refine AL.noU rfl ⟨_, rfl, rfl⟩ rfl ?_) | (refine AL.rpy rfl rfl rfl (rp_lssT rfl rfl rfl (by first | assumption | omega | (dsimp only; omega))) ?_) | (refine AL.rpy rfl rfl rfl (rp_lssF rfl rfl rfl (by first | assumption | omega | (dsimp only; omega))) ?_) | (refine AL.rpy rfl rfl rfl (rp_lss rfl rfl rfl) ?_))
    refine AL.rp rfl rfl (rp_pick rfl rfl rfl) ?_
    refine AL.rp rfl rfl (rp_move rfl rfl) ?_
    (first | (refine AL.noV rfl rfl rfl rfl ?_) | (refine AL.noU rfl ⟨_, rfl, rfl⟩ rfl ?_) | (refine AL.rpy rfl rfl rfl (rp_move rfl rfl) ?_))
    (first | (refine AL.noV rfl rfl rfl rfl ?_) | (refine AL.noU rfl ⟨_, rfl, rfl⟩ rfl ?_) | (refine AL.rpy rfl rfl rfl (rp_index_str Tryd.underlying9 rfl rfl rfl (by first | rfl | omega) (by assumption)) ?_))
    (first | (refine AL.noV rfl rfl rfl rfl ?_) | (refine AL.noU rfl ⟨_, rfl, rfl⟩ rfl ?_) | (refine AL.rpy rfl rfl rfl (rp_gtrT rfl rfl rfl (by first | assumption | omega | (dsimp only; omega))) ?_) | (refine AL.rpy rfl rfl rfl (rp_gtrF rfl rfl rfl (by first | assumption | omega | (dsimp only; omega))) ?_) | (refine AL.rpy rfl rfl rfl (rp_gtr rfl rfl rfl) ?_))
    refine AL.rp rfl rfl (rp_pick rfl rfl rfl) ?_
    refine AL.nil ?_
    try simp only [thenS, S.put]
    refine AW.condF rfl ?_
    refine AW.skip ?_
    try simp only [thenS]
    refine AW.seq ?_
    refine AW.region ?_
    refine AL.rp rfl rfl (rp_move rfl rfl) ?_
    refine AL.rp rfl rfl (rp_index_str Tryd.underlying9 rfl rfl rfl (by first | rfl | omega) (by assumption)) ?_
    refine AL.rp rfl rfl (rp_sub8 rfl rfl rfl (by omega)) ?_
    refine AL.rp rfl rfl (rp_conv Tryd.underlying5 (by intro e h; cases h) (by intro h; cases h) Tryd.underlying3 rfl rfl (r := (b.toNat : Int) - 97) (by first | (rw [wrap8]; omega) | (rw [wrap8]; dsimp only; omega) | (rw [wrap16]; omega) | (rw [wrap64 (by omega)] <;> omega) | (rw [wrapU64 (by omega)] <;> omega))) ?_
    refine AL.rp rfl rfl (rp_assign rfl rfl) ?_
    refine AL.nil ?_
    try simp only [thenS, S.put]
    refine AW.ret ?_
    exact ⟨[_], ⟨rfl, trivial⟩, rfl, by simp [tupOf, V.pure, V.has, V.hasL]⟩
 ·rw [letW_no h1]
  refine Fn.intro (n := 20) ⟨Tryd.func53, rfl, rfl, rfl, rfl⟩ (by simp [V.pure, V.has, V.hasL]) (by simp) fun w0 out => ?_
  refine AW.seq ?_
  refine AW.region ?_
  refine AL.rp rfl rfl (rp_assign rfl rfl) ?_
  refine AL.nil ?_
  try simp only [thenS, S.put, enum, List.nil_append, List.cons_append, List.append_nil, Nat.zero_add, Nat.reduceAdd]
  refine AW.seq ?_
  refine AW.seq ?_
  refine AW.region ?_
  refine AL.rp rfl rfl (rp_move rfl rfl) ?_
  (first | (refine AL.rp rfl rfl (rp_len_map Tryd.underlying9 rfl rfl (by assumption)) ?_) | (refine AL.rp rfl rfl (rp_len_own Tryd.underlying9 rfl rfl) ?_) | (refine AL.rp rfl rfl (rp_len_sl Tryd.underlying9 rfl rfl) ?_) | (refine AL.rp rfl rfl (rp_len_nil Tryd.underlying9 rfl rfl) ?_) | (refine AL.rp rfl rfl (rp_len_str Tryd.underlying9 rfl rfl) ?_))
  (first | (refine AL.rp rfl rfl (rp_neqT rfl rfl rfl (by first | assumption | omega | (dsimp only; omega))) ?_) | (refine AL.rp rfl rfl (rp_neqF rfl rfl rfl (by first | assumption | omega | (dsimp only; omega))) ?_) | (refine AL.rp rfl rfl (rp_neq rfl rfl rfl) ?_))
  refine AL.rp rfl rfl (rp_move rfl rfl) ?_
  (first | (refine AL.noV rfl rfl rfl rfl ?_) | (refine AL.noU rfl ⟨_, rfl, rfl⟩ rfl ?_) | (refine AL.rpy rfl rfl rfl (rp_move rfl rfl) ?_))
  (first | (refine AL.noV rfl rfl rfl rfl ?_) | (refine AL.noU rfl ⟨_, rfl, rfl⟩ rfl ?_) | (refine AL.rpy rfl rfl rfl (rp_index_str Tryd.underlying9 rfl rfl rfl (by first | rfl | omega) (by assumption)) ?_))
  (first | (refine AL.noV rfl rfl rfl rfl ?_) | (refine AL.noU rfl ⟨_, rfl, rfl⟩ rfl ?_) | (refine AL.rpy rfl rfl rfl (rp_lssT rfl rfl rfl (by first | assumption | omega | (dsimp only; omega))) ?_) | (refine AL.rpy rfl rfl rfl (rp_lssF rfl rfl rfl (by first | assumption | omega | (dsimp only; omega))) ?_) | (refine AL.rpy rfl rfl rfl (rp_lss rfl rfl rfl) ?_))
  refine AL.rp rfl rfl (rp_pick rfl rfl rfl) ?_
  refine AL.rp rfl rfl (rp_move rfl rfl) ?_
  (first | (refine AL.noV rfl rfl rfl rfl ?_) | (refine AL.noU rfl ⟨_, rfl, rfl⟩ rfl ?_) | (refine AL.rpy rfl rfl rfl (rp_move rfl rfl) ?_))
  (first | (refine AL.noV rfl rfl rfl rfl ?_) | (refine AL.noU rfl ⟨_, rfl, rfl⟩ rfl ?_) | (refine AL.rpy rfl rfl rfl (rp_index_str Tryd.underlying9 rfl rfl rfl (by first | rfl | omega) (by assumption)) ?_))
  (first | (refine AL.noV rfl rfl rfl rfl ?_) | (refine AL.noU rfl ⟨_, rfl, rfl⟩ rfl ?_) | (refine AL.rpy rfl rfl rfl (rp_gtrT rfl rfl rfl (by first | assumption | omega | (dsimp only; omega))) ?_) | (refine AL.rpy rfl rfl rfl (rp_gtrF rfl rfl rfl (by first | assumption | omega | (dsimp only; omega))) ?_) | (refine AL.rpy rfl rfl rfl (rp_gtr rfl rfl rfl) ?_))
  refine AL.rp rfl rfl (rp_pick rfl rfl rfl) ?_
  refine AL.nil ?_
  try simp only [thenS, S.put]
  refine AW.condT rfl ?_
  refine AW.seq ?_
  refine AW.region ?_
  refine AL.rp rfl rfl (rp_assign rfl rfl) ?_
  refine AL.nil ?_
  try simp only [thenS, S.put]
  refine AW.ret ?_
  exact ⟨[_], ⟨rfl, trivial⟩, rfl, by simp [tupOf, V.pure, V.has, V.hasL]⟩
/-- The kind whose word this is. -/
def knd (p : List UInt8) : Nat → Nat
 | 0 => 0
 | j + 1 => if wdK (j + 1) = bs p then j + 1 else knd p j
theorem knd_le (p : List UInt8) : ∀ j, knd p j ≤ j
 | 0 => Nat.le_refl 0
 | j + 1 => by
  unfold knd
  have := knd_le p j
  split <;> omega
def kT (k : Nat) : Bool := if k = 0 then false else hasT (ptK k)
def kA (k : Nat) : Bool := if k = 0 then false else hasA (ptK k)
def kB (k : Nat) : Bool := if k = 0 then false else hasB (ptK k)
def kN (k : Nat) : Bool := if k = 0 then false else hasN (ptK k)
def wdA (k : Nat) : ByteArray := if k = 0 then ⟨#[]⟩ else wdK k
theorem am_StepWordA (k : Nat) (h : k ≤ 15) : Fn Tryd.prog 52 [.i (k : Int)] (fun v => v = .tup [.s (wdA k), .b (kT k), .b (kA k), .b (kB k), .b (kN k)]) := by
 by_cases h0 : k = 0
 ·subst h0
  exact am_StepWordF ((0 : Nat) : Int) (by omega)
 ·have := am_StepWord k (ptK k) (by omega) h rfl
  unfold wdA kT kA kB kN
  rw [if_neg h0, if_neg h0, if_neg h0, if_neg h0, if_neg h0]
  exact this
/-- The next register of a line, and where the words go on. -/
def nxt (h : Bool) (ws : List (List UInt8)) (at_ : Nat) : Int × Nat := if h = true ∧ at_ < ws.length then (letW (ws[at_]?.getD []), at_ + 1) else (0, at_)
def soS (ws : List (List UInt8)) : Stp :=
 let k := knd (ws[0]?.getD []) 15
 let t := nxt (kT k) ws 1
 let a := nxt (kA k) ws t.2
 let b := nxt (kB k) ws a.2
 ⟨k, t.1, a.1, b.1, if kN k = true ∧ b.2 < ws.length then bs (ws[b.2]?.getD []) else ⟨#[]⟩⟩
theorem nxt_T {ws : List (List UInt8)} {at_ : Nat} {w : List UInt8} (hw : ws[at_]? = some w) : nxt true ws at_ = (letW w, at_ + 1) := by
 unfold nxt
 rw [if_pos ⟨rfl, (List.getElem?_eq_some_iff.1 hw).1⟩, hw]
 rfl
theorem nxt_N {ws : List (List UInt8)} {at_ : Nat} {h : Bool} (hw : ¬ at_ < ws.length) : nxt h ws at_ = (0, at_) := by
 unfold nxt
 rw [if_neg fun h => hw h.2]
theorem nxt_F {ws : List (List UInt8)} {at_ : Nat} : nxt false ws at_ = (0, at_) := by
 unfold nxt
 rw [if_neg fun h => by cases h.1]
theorem nxt_le {ws : List (List UInt8)} {at_ : Nat} {h : Bool} : (nxt h ws at_).2 ≤ at_ + 1 := by
 unfold nxt
 split
 ·exact Nat.le_refl _
 ·exact Nat.le_succ _
set_option maxHeartbeats 4000000 in
theorem am_stepOf (u : List UInt8) (hul : u.length ≤ 20000) : Fn Tryd.prog 27 [.s (bs u)] (fun v => v = .agg ((stpD (soS (prt u))).map V.d)) := by
 have hsp : Fn Tryd.prog 22 [.s (bs u)] (fun v => v = .d (strsD (prt u))) := am_RParts u hul
 obtain ⟨p0, pr, hw0⟩ := prt_ne u
 have hwl := prt_len u
 obtain ⟨ws, hws⟩ : ∃ ws, prt u = ws := ⟨_, rfl⟩
 rw [hws] at hsp hw0 hwl ⊢
 obtain ⟨N, hN⟩ : ∃ N, ws.length = N := ⟨_, rfl⟩
 have hq0 : ws[0]? = some p0 := by rw [hw0]; rfl
 obtain ⟨R, hR⟩ : ∃ R, soS ws = R := ⟨_, rfl⟩
 rw [hR]
 have hN1 : 1 ≤ N := by rw [← hN, hw0]; simp
 rw [hN] at hwl
 clear hw0 hws
 unfold soS at hR
 rw [hq0, Option.getD_some] at hR
 refine Fn.intro (n := 105) ⟨Tryd.func27, rfl, rfl, rfl, rfl⟩ (by simp [V.pure, V.has, V.hasL]) (by simp) fun w0 out => ?_
 refine AW.seq ?_
 refine AW.region ?_
 refine AL.sm rfl (sm_alloc (l := [.d (.p (.int .i64 0)), .d (.p (.int .i64 0)), .d (.p (.int .i64 0)), .d (.p (.int .i64 0)), .d (.p (.string ⟨#[]⟩))]) 2 inf60 rfl (by first | rfl | simp [S.clean, S.put, S.newObj, S.forget, V.has, V.hasL, junkIf, setL, V.cs, hasL_i, hasL_d, hasL_b, hasL_s, hasL_n, hasL_rep, hasL_flat, hasL_append, -List.map_set]) rfl rfl) ?_
 refine AL.nil ?_
 try simp only [thenS, S.put, S.newObj, setL, V.cs, List.length_cons, List.length_nil, List.take_succ_cons, List.take_zero, List.drop_succ_cons, List.drop_zero, List.drop_nil, List.nil_append, List.cons_append, List.append_nil, Nat.zero_add, Nat.reduceAdd, List.map_cons, List.map_nil, List.set_cons_zero, List.set_cons_succ, enum]
 refine AW.seq ?_
 refine AW.region ?_
 refine AL.rp rfl rfl (rp_move rfl rfl) ?_
 refine AL.call (post := ?pc0) rfl (sm_call (args := [_]) ?hc0 ⟨Tryd.func22, rfl, rfl, rfl, rfl⟩ rfl rfl rfl rfl) ?_
 case hc0 => exact hsp
 rintro _ rfl -
 try dsimp only
 refine AL.rp rfl rfl (rp_assign rfl rfl) ?_
 refine AL.nil ?_
 try simp only [thenS, S.put, S.newObj, setL, V.cs, List.length_cons, List.length_nil, List.take_succ_cons, List.take_zero, List.drop_succ_cons, List.drop_zero, List.drop_nil, List.nil_append, List.cons_append, List.append_nil, Nat.zero_add, Nat.reduceAdd, List.map_cons, List.map_nil, List.set_cons_zero, List.set_cons_succ]
 refine AW.seq ?_
 refine AW.region ?_
 refine AL.sm rfl (sm_alloc (l := [.d (.p (.int .i64 0)), .d (.p (.int .i64 0)), .d (.p (.int .i64 0)), .d (.p (.int .i64 0)), .d (.p (.string ⟨#[]⟩))]) 4 inf60 rfl (by first | rfl | simp [S.clean, S.put, S.newObj, S.forget, V.has, V.hasL, junkIf, setL, V.cs, hasL_i, hasL_d, hasL_b, hasL_s, hasL_n, hasL_rep, hasL_flat, hasL_append, -List.map_set]) rfl rfl) ?_
 refine AL.nil ?_
 try simp only [thenS, S.put, S.newObj, setL, V.cs, List.length_cons, List.length_nil, List.take_succ_cons, List.take_zero, List.drop_succ_cons, List.drop_zero, List.drop_nil, List.nil_append, List.cons_append, List.append_nil, Nat.zero_add, Nat.reduceAdd, List.map_cons, List.map_nil, List.set_cons_zero, List.set_cons_succ]
 refine AW.seq ?_
 refine AW.seq ?_
 refine AW.region ?_
 refine AL.rp rfl rfl (rp_assign rfl rfl) ?_
 refine AL.nil ?_
 try simp only [thenS, S.put]
 refine AW.block ?_
 refine AW.loop (fun s' => ∃ i : Nat, i ≤ 15 ∧ s' = ⟨105, [(2, .ref 2 0), (3, .d (strsD ws)), (4, .ref 4 0), (5, .i (i + 1 : Nat))], [(2, ⟨60, [.i 0, .i 0, .i 0, .i 0, .s ⟨#[]⟩], false, 0⟩), (4, ⟨60, [.i (knd p0 i : Nat), .i 0, .i 0, .i 0, .s ⟨#[]⟩], false, 0⟩)], []⟩) (fun s' => 17 - s'.nat 5) ⟨_, ?_, 0, by omega, rfl⟩ ?_
 ·exact (Less.of rfl (by repeat (first | exact trivial | refine ⟨⟨_, rfl, Wk.refl _⟩, ?_⟩ | refine ⟨⟨_, rfl, Wk.nil _ _⟩, ?_⟩ | refine ⟨⟨_, rfl, Wk.junk _⟩, ?_⟩)) (by repeat (first | exact trivial | refine ⟨rfl, ?_⟩)) rfl)
 rintro s' ⟨i, hi, rfl⟩
 by_cases hlt : i < 15
 ·have hwc := am_StepWord (i + 1) (ptK (i + 1)) (by omega) (by omega) rfl
  obtain ⟨b1, hb1⟩ : ∃ b, hasT (ptK (i + 1)) = b := ⟨_, rfl⟩
  obtain ⟨b2, hb2⟩ : ∃ b, hasA (ptK (i + 1)) = b := ⟨_, rfl⟩
  obtain ⟨b3, hb3⟩ : ∃ b, hasB (ptK (i + 1)) = b := ⟨_, rfl⟩
  obtain ⟨b4, hb4⟩ : ∃ b, hasN (ptK (i + 1)) = b := ⟨_, rfl⟩
  rw [hb1, hb2, hb3, hb4] at hwc
  have hpos : ((i + 1 : Nat) : Int) + 1 = ((i + 1 + 1 : Nat) : Int) := by omega
  by_cases hw : wdK (i + 1) = bs p0
  ·have hk : knd p0 (i + 1) = i + 1 := by rw [knd, if_pos hw]
   refine AW.seq ?_
   refine AW.seq ?_
   refine AW.region ?_
   refine AL.rp rfl rfl (rp_move rfl rfl) ?_
   (first | (refine AL.rp rfl rfl (rp_leqT rfl rfl rfl (by first | assumption | omega | (dsimp only; omega))) ?_) | (refine AL.rp rfl rfl (rp_leqF rfl rfl rfl (by first | assumption | omega | (dsimp only; omega))) ?_) | (refine AL.rp rfl rfl (rp_leq rfl rfl rfl) ?_))
   refine AL.nil ?_
   try simp only [thenS, S.put]
   refine AW.condT rfl ?_
   refine AW.skip ?_
   try simp only [thenS]
   refine AW.seq ?_
   refine AW.block ?_
   refine AW.seq ?_
   refine AW.region ?_
   refine AL.rp rfl rfl (rp_move rfl rfl) ?_
   refine AL.call (post := ?pc1) rfl (sm_call (args := [_]) ?hc1 ⟨Tryd.func52, rfl, rfl, rfl, rfl⟩ rfl rfl rfl rfl) ?_
   case hc1 => exact hwc
   rintro _ rfl -
   try dsimp only
   refine AL.rp rfl rfl (rp_move rfl rfl) ?_
   refine AL.rp rfl rfl (rp_extract rfl rfl rfl) ?_
   refine AL.rp rfl rfl (rp_extract rfl rfl rfl) ?_
   refine AL.rp rfl rfl (rp_extract rfl rfl rfl) ?_
   refine AL.rp rfl rfl (rp_extract rfl rfl rfl) ?_
   refine AL.rp rfl rfl (rp_extract rfl rfl rfl) ?_
   refine AL.rp rfl rfl (rp_assign rfl rfl) ?_
   refine AL.rp rfl rfl (rp_assign rfl rfl) ?_
   refine AL.rp rfl rfl (rp_assign rfl rfl) ?_
   refine AL.rp rfl rfl (rp_assign rfl rfl) ?_
   refine AL.rp rfl rfl (rp_assign rfl rfl) ?_
   refine AL.nil ?_
   try simp only [thenS, S.put, S.newObj, setL, V.cs, List.length_cons, List.length_nil, List.take_succ_cons, List.take_zero, List.drop_succ_cons, List.drop_zero, List.drop_nil, List.nil_append, List.cons_append, List.append_nil, Nat.zero_add, Nat.reduceAdd, List.map_cons, List.map_nil, List.set_cons_zero, List.set_cons_succ]
   refine AW.seq ?_
   refine AW.region ?_
   refine AL.rp rfl rfl (rp_move rfl rfl) ?_
   refine AL.rp rfl rfl (rp_move rfl rfl) ?_
   (first | (refine AL.rp rfl rfl (rp_index_own (k := 0) Tryd.underlying53 inf9 rfl rfl rfl (by omega) (by omega)) ?_) | (refine AL.rp rfl rfl (rp_index_map (k := 0) Tryd.underlying53 inf9 rfl rfl rfl (by omega) (by assumption)) ?_))
   (first | (refine AL.rd rfl rfl (rd_load_ref Tryd.underlying9 rfl rfl rfl rfl rfl rfl) ?_) | (refine AL.rd rfl rfl (rd_load_ad Tryd.underlying9 rfl rfl rfl rfl) ?_) | (refine AL.rd rfl rfl (rd_load_map Tryd.underlying9 rfl rfl rfl rfl rfl rfl (by assumption)) ?_) | (refine AL.rd rfl rfl (rd_load_flat Tryd.underlying9 rfl rfl rfl rfl rfl rfl (fun _ => rfl) (by assumption) rfl) ?_))
   (first | (refine AL.rp rfl rfl (rp_eqlsT rfl rfl rfl (by assumption)) ?_) | (refine AL.rp rfl rfl (rp_eqlsF rfl rfl rfl (by assumption)) ?_) | (refine AL.rp rfl rfl (rp_eqls rfl rfl rfl) ?_))
   refine AL.nil ?_
   try simp only [thenS, S.put]
   refine AW.condT rfl ?_
   refine AW.region ?_
   refine AL.rp rfl rfl (rp_move rfl rfl) ?_
   (first | (refine AL.rp rfl rfl (rp_field_ref Tryd.underlying60 rfl rfl rfl inf3 (by decide) rfl) ?_) | (refine AL.rp rfl rfl (rp_field_ad Tryd.underlying60 rfl rfl rfl inf3 (by decide) rfl) ?_))
   (first | (refine AL.st rfl (st_store_map2 inf3 rfl rfl rfl rfl rfl rfl rfl rfl (by first | assumption | omega)) ?_) | (refine AL.st rfl (st_store inf3 rfl rfl rfl rfl rfl rfl rfl (by first | decide | (simp; done)) rfl) ?_))
   refine AL.nil ?_
   try simp only [thenS, S.put, S.newObj, setL, V.cs, List.length_cons, List.length_nil, List.take_succ_cons, List.take_zero, List.drop_succ_cons, List.drop_zero, List.drop_nil, List.nil_append, List.cons_append, List.append_nil, Nat.zero_add, Nat.reduceAdd, List.map_cons, List.map_nil, List.set_cons_zero, List.set_cons_succ]
   refine AW.region ?_
   refine AL.rp rfl rfl (rp_move rfl rfl) ?_
   refine AL.rp rfl rfl (rp_add rfl rfl rfl (by first | omega | (dsimp only; omega))) ?_
   refine AL.rp rfl rfl (rp_assign rfl rfl) ?_
   refine AL.nil ?_
   try simp only [thenS, S.put]
   refine ⟨_, ?_, ⟨i + 1, by omega, rfl⟩, ?_⟩
   ·rw [hk]
    exact (Less.of rfl (by repeat (first | exact trivial | refine ⟨⟨_, rfl, Wk.refl _⟩, ?_⟩ | refine ⟨⟨_, rfl, Wk.nil _ _⟩, ?_⟩ | refine ⟨⟨_, rfl, Wk.junk _⟩, ?_⟩)) (by repeat (first | exact trivial | refine ⟨rfl, ?_⟩)) rfl)
   ·simp [S.nat, fnd]; omega
  ·have hk : knd p0 (i + 1) = knd p0 i := by rw [knd, if_neg hw]
   have hw' : (wdK (i + 1)).data.toList ≠ (bs p0).data.toList := fun h => hw (bs_ext h)
   refine AW.seq ?_
   refine AW.seq ?_
   refine AW.region ?_
   refine AL.rp rfl rfl (rp_move rfl rfl) ?_
   (first | (refine AL.rp rfl rfl (rp_leqT rfl rfl rfl (by first | assumption | omega | (dsimp only; omega))) ?_) | (refine AL.rp rfl rfl (rp_leqF rfl rfl rfl (by first | assumption | omega | (dsimp only; omega))) ?_) | (refine AL.rp rfl rfl (rp_leq rfl rfl rfl) ?_))
   refine AL.nil ?_
   try simp only [thenS, S.put]
   refine AW.condT rfl ?_
   refine AW.skip ?_
   try simp only [thenS]
   refine AW.seq ?_
   refine AW.block ?_
   refine AW.seq ?_
   refine AW.region ?_
   refine AL.rp rfl rfl (rp_move rfl rfl) ?_
   refine AL.call (post := ?pc2) rfl (sm_call (args := [_]) ?hc2 ⟨Tryd.func52, rfl, rfl, rfl, rfl⟩ rfl rfl rfl rfl) ?_
   case hc2 => exact hwc
   rintro _ rfl -
   try dsimp only
   refine AL.rp rfl rfl (rp_move rfl rfl) ?_
   refine AL.rp rfl rfl (rp_extract rfl rfl rfl) ?_
   refine AL.rp rfl rfl (rp_extract rfl rfl rfl) ?_
   refine AL.rp rfl rfl (rp_extract rfl rfl rfl) ?_
   refine AL.rp rfl rfl (rp_extract rfl rfl rfl) ?_
   refine AL.rp rfl rfl (rp_extract rfl rfl rfl) ?_
   refine AL.rp rfl rfl (rp_assign rfl rfl) ?_
   refine AL.rp rfl rfl (rp_assign rfl rfl) ?_
   refine AL.rp rfl rfl (rp_assign rfl rfl) ?_
   refine AL.rp rfl rfl (rp_assign rfl rfl) ?_
   refine AL.rp rfl rfl (rp_assign rfl rfl) ?_
   refine AL.nil ?_
   try simp only [thenS, S.put, S.newObj, setL, V.cs, List.length_cons, List.length_nil, List.take_succ_cons, List.take_zero, List.drop_succ_cons, List.drop_zero, List.drop_nil, List.nil_append, List.cons_append, List.append_nil, Nat.zero_add, Nat.reduceAdd, List.map_cons, List.map_nil, List.set_cons_zero, List.set_cons_succ]
   refine AW.seq ?_
   refine AW.region ?_
   refine AL.rp rfl rfl (rp_move rfl rfl) ?_
   refine AL.rp rfl rfl (rp_move rfl rfl) ?_
   (first | (refine AL.rp rfl rfl (rp_index_own (k := 0) Tryd.underlying53 inf9 rfl rfl rfl (by omega) (by omega)) ?_) | (refine AL.rp rfl rfl (rp_index_map (k := 0) Tryd.underlying53 inf9 rfl rfl rfl (by omega) (by assumption)) ?_))
   (first | (refine AL.rd rfl rfl (rd_load_ref Tryd.underlying9 rfl rfl rfl rfl rfl rfl) ?_) | (refine AL.rd rfl rfl (rd_load_ad Tryd.underlying9 rfl rfl rfl rfl) ?_) | (refine AL.rd rfl rfl (rd_load_map Tryd.underlying9 rfl rfl rfl rfl rfl rfl (by assumption)) ?_) | (refine AL.rd rfl rfl (rd_load_flat Tryd.underlying9 rfl rfl rfl rfl rfl rfl (fun _ => rfl) (by assumption) rfl) ?_))
   (first | (refine AL.rp rfl rfl (rp_eqlsT rfl rfl rfl (by assumption)) ?_) | (refine AL.rp rfl rfl (rp_eqlsF rfl rfl rfl (by assumption)) ?_) | (refine AL.rp rfl rfl (rp_eqls rfl rfl rfl) ?_))
   refine AL.nil ?_
   try simp only [thenS, S.put]
   refine AW.condF rfl ?_
   refine AW.skip ?_
   try simp only [thenS]
   refine AW.region ?_
   refine AL.rp rfl rfl (rp_move rfl rfl) ?_
   refine AL.rp rfl rfl (rp_add rfl rfl rfl (by first | omega | (dsimp only; omega))) ?_
   refine AL.rp rfl rfl (rp_assign rfl rfl) ?_
   refine AL.nil ?_
   try simp only [thenS, S.put]
   refine ⟨_, ?_, ⟨i + 1, by omega, rfl⟩, ?_⟩
   ·rw [hk]
    exact (Less.of rfl (by repeat (first | exact trivial | refine ⟨⟨_, rfl, Wk.refl _⟩, ?_⟩ | refine ⟨⟨_, rfl, Wk.nil _ _⟩, ?_⟩ | refine ⟨⟨_, rfl, Wk.junk _⟩, ?_⟩)) (by repeat (first | exact trivial | refine ⟨rfl, ?_⟩)) rfl)
   ·simp [S.nat, fnd]; omega
 ·obtain rfl : i = 15 := by omega
  have hkl := knd_le p0 15
  obtain ⟨k, hk⟩ : ∃ k, knd p0 15 = k := ⟨_, rfl⟩
  rw [hk] at hR hkl ⊢
  dsimp only at hR
  have hwc := am_StepWordA k hkl
  obtain ⟨wa, hwa⟩ : ∃ b, wdA k = b := ⟨_, rfl⟩
  obtain ⟨tb, htb⟩ : ∃ b, kT k = b := ⟨_, rfl⟩
  obtain ⟨ab, hab⟩ : ∃ b, kA k = b := ⟨_, rfl⟩
  obtain ⟨bb, hbb⟩ : ∃ b, kB k = b := ⟨_, rfl⟩
  obtain ⟨nb, hnb⟩ : ∃ b, kN k = b := ⟨_, rfl⟩
  rw [hwa, htb, hab, hbb, hnb] at hwc
  rw [htb, hab, hbb, hnb] at hR
  have hl1 := nxt_le (ws := ws) (at_ := 1) (h := tb)
  obtain ⟨t1, a1, h1⟩ : ∃ t1 a1, nxt tb ws 1 = (t1, a1) := ⟨_, _, rfl⟩
  rw [h1] at hl1
  rw [h1] at hR
  dsimp only at hR hl1
  have hl2 := nxt_le (ws := ws) (at_ := a1) (h := ab)
  obtain ⟨t2, a2, h2⟩ : ∃ t1 a2, nxt ab ws a1 = (t1, a2) := ⟨_, _, rfl⟩
  rw [h2] at hl2
  rw [h2] at hR
  dsimp only at hR hl2
  have hl3 := nxt_le (ws := ws) (at_ := a2) (h := bb)
  obtain ⟨t3, a3, h3⟩ : ∃ t1 a3, nxt bb ws a2 = (t1, a3) := ⟨_, _, rfl⟩
  rw [h3] at hl3
  rw [h3] at hR
  dsimp only at hR hl3
  rw [hN] at hR
  subst hR
  clear hwa htb hab hbb hnb hk
  refine AW.seq ?_
  refine AW.seq ?_
  refine AW.region ?_
  refine AL.rp rfl rfl (rp_move rfl rfl) ?_
  (first | (refine AL.rp rfl rfl (rp_leqT rfl rfl rfl (by first | assumption | omega | (dsimp only; omega))) ?_) | (refine AL.rp rfl rfl (rp_leqF rfl rfl rfl (by first | assumption | omega | (dsimp only; omega))) ?_) | (refine AL.rp rfl rfl (rp_leq rfl rfl rfl) ?_))
  refine AL.nil ?_
  try simp only [thenS, S.put]
  refine AW.condF rfl ?_
  refine AW.exit ?_
  try simp only [thenS, inBlockS, ↓reduceIte, Nat.reduceEqDiff]
  refine AW.seq ?_
  refine AW.region ?_
  (first | (refine AL.rp rfl rfl (rp_field_ref Tryd.underlying60 rfl rfl rfl inf3 (by decide) rfl) ?_) | (refine AL.rp rfl rfl (rp_field_ad Tryd.underlying60 rfl rfl rfl inf3 (by decide) rfl) ?_))
  (first | (refine AL.rd rfl rfl (rd_load_ref Tryd.underlying3 rfl rfl rfl rfl rfl rfl) ?_) | (refine AL.rd rfl rfl (rd_load_ad Tryd.underlying3 rfl rfl rfl rfl) ?_) | (refine AL.rd rfl rfl (rd_load_map Tryd.underlying3 rfl rfl rfl rfl rfl rfl (by assumption)) ?_) | (refine AL.rd rfl rfl (rd_load_flat Tryd.underlying3 rfl rfl rfl rfl rfl rfl (fun _ => rfl) (by assumption) rfl) ?_))
  refine AL.call (post := ?pc3) rfl (sm_call (args := [_]) ?hc3 ⟨Tryd.func52, rfl, rfl, rfl, rfl⟩ rfl rfl rfl rfl) ?_
  case hc3 => exact hwc
  rintro _ rfl -
  try dsimp only
  refine AL.rp rfl rfl (rp_move rfl rfl) ?_
  refine AL.rp rfl rfl (rp_extract rfl rfl rfl) ?_
  refine AL.rp rfl rfl (rp_extract rfl rfl rfl) ?_
  refine AL.rp rfl rfl (rp_extract rfl rfl rfl) ?_
  refine AL.rp rfl rfl (rp_extract rfl rfl rfl) ?_
  refine AL.rp rfl rfl (rp_extract rfl rfl rfl) ?_
  refine AL.rp rfl rfl (rp_assign rfl rfl) ?_
  refine AL.rp rfl rfl (rp_assign rfl rfl) ?_
  refine AL.rp rfl rfl (rp_assign rfl rfl) ?_
  refine AL.rp rfl rfl (rp_assign rfl rfl) ?_
  refine AL.rp rfl rfl (rp_assign rfl rfl) ?_
  refine AL.nil ?_
  try simp only [thenS, S.put, S.newObj, setL, V.cs, List.length_cons, List.length_nil, List.take_succ_cons, List.take_zero, List.drop_succ_cons, List.drop_zero, List.drop_nil, List.nil_append, List.cons_append, List.append_nil, Nat.zero_add, Nat.reduceAdd, List.map_cons, List.map_nil, List.set_cons_zero, List.set_cons_succ]
  refine AW.seq ?_
  refine AW.region ?_
  refine AL.rp rfl rfl (rp_assign rfl rfl) ?_
  refine AL.nil ?_
  try simp only [thenS, S.put]
  refine AW.seqc (fun s' => s' = ⟨105, [(2, .ref 2 0), (3, .d (strsD ws)), (4, .ref 4 0), (13, .b ab), (14, .b bb), (15, .b nb), (16, .i (a1 : Nat))], [(2, ⟨60, [.i 0, .i 0, .i 0, .i 0, .s ⟨#[]⟩], false, 0⟩), (4, ⟨60, [.i (k : Nat), .i t1, .i 0, .i 0, .s ⟨#[]⟩], false, 0⟩)], []⟩) ?_ ?_
  ·skip
   by_cases hn : tb = true
   ·subst hn
    by_cases hat : 1 < N
    ·obtain ⟨w, hw⟩ := get_lt hN hat
     have hlet := am_letter w
     rw [nxt_T hw, Prod.mk.injEq] at h1
     obtain ⟨rfl, rfl⟩ := h1
     refine AW.seq ?_
     refine AW.region ?_
     refine AL.rp rfl rfl (rp_move rfl rfl) ?_
     refine AL.rp rfl rfl (rp_move rfl rfl) ?_
     (first | (refine AL.noV rfl rfl rfl rfl ?_) | (refine AL.noU rfl ⟨_, rfl, rfl⟩ rfl ?_) | (refine AL.rpy rfl rfl rfl (rp_move rfl rfl) ?_))
     (first | (refine AL.noV rfl rfl rfl rfl ?_) | (refine AL.noU rfl ⟨_, rfl, rfl⟩ rfl ?_) | (refine AL.rpy rfl rfl rfl (rp_move rfl rfl) ?_))
     (first | (refine AL.noV rfl rfl rfl rfl ?_) | (refine AL.noU rfl ⟨_, rfl, rfl⟩ rfl ?_) | (refine AL.rpy rfl rfl rfl (rp_len_map Tryd.underlying53 rfl rfl (by assumption)) ?_) | (refine AL.rpy rfl rfl rfl (rp_len_own Tryd.underlying53 rfl rfl) ?_) | (refine AL.rpy rfl rfl rfl (rp_len_sl Tryd.underlying53 rfl rfl) ?_) | (refine AL.rpy rfl rfl rfl (rp_len_nil Tryd.underlying53 rfl rfl) ?_) | (refine AL.rpy rfl rfl rfl (rp_len_str Tryd.underlying53 rfl rfl) ?_))
     (first | (refine AL.noV rfl rfl rfl rfl ?_) | (refine AL.noU rfl ⟨_, rfl, rfl⟩ rfl ?_) | (refine AL.rpy rfl rfl rfl (rp_lssT rfl rfl rfl (by first | assumption | omega | (dsimp only; omega))) ?_) | (refine AL.rpy rfl rfl rfl (rp_lssF rfl rfl rfl (by first | assumption | omega | (dsimp only; omega))) ?_) | (refine AL.rpy rfl rfl rfl (rp_lss rfl rfl rfl) ?_))
     refine AL.rp rfl rfl (rp_pick rfl rfl rfl) ?_
     refine AL.nil ?_
     try simp only [thenS, S.put]
     refine AW.condT rfl ?_
     refine AW.seq ?_
     refine AW.region ?_
     refine AL.rp rfl rfl (rp_move rfl rfl) ?_
     refine AL.rp rfl rfl (rp_move rfl rfl) ?_
     (first | (refine AL.rp rfl rfl (rp_index_own (k := 1) Tryd.underlying53 inf9 rfl rfl rfl (by omega) (by omega)) ?_) | (refine AL.rp rfl rfl (rp_index_map (k := 1) Tryd.underlying53 inf9 rfl rfl rfl (by omega) (by assumption)) ?_))
     (first | (refine AL.rd rfl rfl (rd_load_ref Tryd.underlying9 rfl rfl rfl rfl rfl rfl) ?_) | (refine AL.rd rfl rfl (rd_load_ad Tryd.underlying9 rfl rfl rfl rfl) ?_) | (refine AL.rd rfl rfl (rd_load_map Tryd.underlying9 rfl rfl rfl rfl rfl rfl (by assumption)) ?_) | (refine AL.rd rfl rfl (rd_load_flat Tryd.underlying9 rfl rfl rfl rfl rfl rfl (fun _ => rfl) (by assumption) rfl) ?_))
     refine AL.call (post := ?pc4) rfl (sm_call (args := [_]) ?hc4 ⟨Tryd.func53, rfl, rfl, rfl, rfl⟩ rfl rfl rfl rfl) ?_
     case hc4 => exact hlet
     rintro _ rfl -
     try dsimp only
     (first | (refine AL.rp rfl rfl (rp_field_ref Tryd.underlying60 rfl rfl rfl inf3 (by decide) rfl) ?_) | (refine AL.rp rfl rfl (rp_field_ad Tryd.underlying60 rfl rfl rfl inf3 (by decide) rfl) ?_))
     (first | (refine AL.st rfl (st_store_map2 inf3 rfl rfl rfl rfl rfl rfl rfl rfl (by first | assumption | omega)) ?_) | (refine AL.st rfl (st_store inf3 rfl rfl rfl rfl rfl rfl rfl (by first | decide | (simp; done)) rfl) ?_))
     refine AL.nil ?_
     try simp only [thenS, S.put, S.newObj, setL, V.cs, List.length_cons, List.length_nil, List.take_succ_cons, List.take_zero, List.drop_succ_cons, List.drop_zero, List.drop_nil, List.nil_append, List.cons_append, List.append_nil, Nat.zero_add, Nat.reduceAdd, List.map_cons, List.map_nil, List.set_cons_zero, List.set_cons_succ]
     refine AW.region ?_
     refine AL.rp rfl rfl (rp_move rfl rfl) ?_
     refine AL.rp rfl rfl (rp_add rfl rfl rfl (by first | omega | (dsimp only; omega))) ?_
     refine AL.rp rfl rfl (rp_assign rfl rfl) ?_
     refine AL.nil ?_
     try simp only [thenS, S.put]
     refine ⟨_, ?_, rfl⟩
     exact (Less.of rfl (by repeat (first | exact trivial | refine ⟨⟨_, rfl, Wk.refl _⟩, ?_⟩ | refine ⟨⟨_, rfl, Wk.nil _ _⟩, ?_⟩ | refine ⟨⟨_, rfl, Wk.junk _⟩, ?_⟩)) (by repeat (first | exact trivial | refine ⟨rfl, ?_⟩)) rfl)
    ·rw [nxt_N (by omega), Prod.mk.injEq] at h1
     obtain ⟨rfl, rfl⟩ := h1
     refine AW.seq ?_
     refine AW.region ?_
     refine AL.rp rfl rfl (rp_move rfl rfl) ?_
     refine AL.rp rfl rfl (rp_move rfl rfl) ?_
     (first | (refine AL.noV rfl rfl rfl rfl ?_) | (refine AL.noU rfl ⟨_, rfl, rfl⟩ rfl ?_) | (refine AL.rpy rfl rfl rfl (rp_move rfl rfl) ?_))
     (first | (refine AL.noV rfl rfl rfl rfl ?_) | (refine AL.noU rfl ⟨_, rfl, rfl⟩ rfl ?_) | (refine AL.rpy rfl rfl rfl (rp_move rfl rfl) ?_))
     (first | (refine AL.noV rfl rfl rfl rfl ?_) | (refine AL.noU rfl ⟨_, rfl, rfl⟩ rfl ?_) | (refine AL.rpy rfl rfl rfl (rp_len_map Tryd.underlying53 rfl rfl (by assumption)) ?_) | (refine AL.rpy rfl rfl rfl (rp_len_own Tryd.underlying53 rfl rfl) ?_) | (refine AL.rpy rfl rfl rfl (rp_len_sl Tryd.underlying53 rfl rfl) ?_) | (refine AL.rpy rfl rfl rfl (rp_len_nil Tryd.underlying53 rfl rfl) ?_) | (refine AL.rpy rfl rfl rfl (rp_len_str Tryd.underlying53 rfl rfl) ?_))
     (first | (refine AL.noV rfl rfl rfl rfl ?_) | (refine AL.noU rfl ⟨_, rfl, rfl⟩ rfl ?_) | (refine AL.rpy rfl rfl rfl (rp_lssT rfl rfl rfl (by first | assumption | omega | (dsimp only; omega))) ?_) | (refine AL.rpy rfl rfl rfl (rp_lssF rfl rfl rfl (by first | assumption | omega | (dsimp only; omega))) ?_) | (refine AL.rpy rfl rfl rfl (rp_lss rfl rfl rfl) ?_))
     refine AL.rp rfl rfl (rp_pick rfl rfl rfl) ?_
     refine AL.nil ?_
     try simp only [thenS, S.put]
     refine AW.condF rfl ?_
     refine AW.skip ?_
     try simp only [thenS]
     refine ⟨_, ?_, rfl⟩
     exact (Less.of rfl (by repeat (first | exact trivial | refine ⟨⟨_, rfl, Wk.refl _⟩, ?_⟩ | refine ⟨⟨_, rfl, Wk.nil _ _⟩, ?_⟩ | refine ⟨⟨_, rfl, Wk.junk _⟩, ?_⟩)) (by repeat (first | exact trivial | refine ⟨rfl, ?_⟩)) rfl)
   ·obtain rfl : tb = false := by cases tb <;> simp_all
    rw [nxt_F, Prod.mk.injEq] at h1
    obtain ⟨rfl, rfl⟩ := h1
    refine AW.seq ?_
    refine AW.region ?_
    refine AL.rp rfl rfl (rp_move rfl rfl) ?_
    refine AL.rp rfl rfl (rp_move rfl rfl) ?_
    (first | (refine AL.noV rfl rfl rfl rfl ?_) | (refine AL.noU rfl ⟨_, rfl, rfl⟩ rfl ?_) | (refine AL.rpy rfl rfl rfl (rp_move rfl rfl) ?_))
    (first | (refine AL.noV rfl rfl rfl rfl ?_) | (refine AL.noU rfl ⟨_, rfl, rfl⟩ rfl ?_) | (refine AL.rpy rfl rfl rfl (rp_move rfl rfl) ?_))
    (first | (refine AL.noV rfl rfl rfl rfl ?_) | (refine AL.noU rfl ⟨_, rfl, rfl⟩ rfl ?_) | (refine AL.rpy rfl rfl rfl (rp_len_map Tryd.underlying53 rfl rfl (by assumption)) ?_) | (refine AL.rpy rfl rfl rfl (rp_len_own Tryd.underlying53 rfl rfl) ?_) | (refine AL.rpy rfl rfl rfl (rp_len_sl Tryd.underlying53 rfl rfl) ?_) | (refine AL.rpy rfl rfl rfl (rp_len_nil Tryd.underlying53 rfl rfl) ?_) | (refine AL.rpy rfl rfl rfl (rp_len_str Tryd.underlying53 rfl rfl) ?_))
    (first | (refine AL.noV rfl rfl rfl rfl ?_) | (refine AL.noU rfl ⟨_, rfl, rfl⟩ rfl ?_) | (refine AL.rpy rfl rfl rfl (rp_lssT rfl rfl rfl (by first | assumption | omega | (dsimp only; omega))) ?_) | (refine AL.rpy rfl rfl rfl (rp_lssF rfl rfl rfl (by first | assumption | omega | (dsimp only; omega))) ?_) | (refine AL.rpy rfl rfl rfl (rp_lss rfl rfl rfl) ?_))
    refine AL.rp rfl rfl (rp_pick rfl rfl rfl) ?_
    refine AL.nil ?_
    try simp only [thenS, S.put]
    refine AW.condF rfl ?_
    refine AW.skip ?_
    try simp only [thenS]
    refine ⟨_, ?_, rfl⟩
    exact (Less.of rfl (by repeat (first | exact trivial | refine ⟨⟨_, rfl, Wk.refl _⟩, ?_⟩ | refine ⟨⟨_, rfl, Wk.nil _ _⟩, ?_⟩ | refine ⟨⟨_, rfl, Wk.junk _⟩, ?_⟩)) (by repeat (first | exact trivial | refine ⟨rfl, ?_⟩)) rfl)
  ·rintro s' rfl
   refine AW.seqc (fun s' => s' = ⟨105, [(2, .ref 2 0), (3, .d (strsD ws)), (4, .ref 4 0), (14, .b bb), (15, .b nb), (16, .i (a2 : Nat))], [(2, ⟨60, [.i 0, .i 0, .i 0, .i 0, .s ⟨#[]⟩], false, 0⟩), (4, ⟨60, [.i (k : Nat), .i t1, .i t2, .i 0, .s ⟨#[]⟩], false, 0⟩)], []⟩) ?_ ?_
   ·skip
    by_cases hn : ab = true
    ·subst hn
     by_cases hat : a1 < N
     ·obtain ⟨w, hw⟩ := get_lt hN hat
      have hlet := am_letter w
      rw [nxt_T hw, Prod.mk.injEq] at h2
      obtain ⟨rfl, rfl⟩ := h2
      refine AW.seq ?_
      refine AW.region ?_
      refine AL.rp rfl rfl (rp_move rfl rfl) ?_
      refine AL.rp rfl rfl (rp_move rfl rfl) ?_
      (first | (refine AL.noV rfl rfl rfl rfl ?_) | (refine AL.noU rfl ⟨_, rfl, rfl⟩ rfl ?_) | (refine AL.rpy rfl rfl rfl (rp_move rfl rfl) ?_))
      (first | (refine AL.noV rfl rfl rfl rfl ?_) | (refine AL.noU rfl ⟨_, rfl, rfl⟩ rfl ?_) | (refine AL.rpy rfl rfl rfl (rp_move rfl rfl) ?_))
      (first | (refine AL.noV rfl rfl rfl rfl ?_) | (refine AL.noU rfl ⟨_, rfl, rfl⟩ rfl ?_) | (refine AL.rpy rfl rfl rfl (rp_len_map Tryd.underlying53 rfl rfl (by assumption)) ?_) | (refine AL.rpy rfl rfl rfl (rp_len_own Tryd.underlying53 rfl rfl) ?_) | (refine AL.rpy rfl rfl rfl (rp_len_sl Tryd.underlying53 rfl rfl) ?_) | (refine AL.rpy rfl rfl rfl (rp_len_nil Tryd.underlying53 rfl rfl) ?_) | (refine AL.rpy rfl rfl rfl (rp_len_str Tryd.underlying53 rfl rfl) ?_))
      (first | (refine AL.noV rfl rfl rfl rfl ?_) | (refine AL.noU rfl ⟨_, rfl, rfl⟩ rfl ?_) | (refine AL.rpy rfl rfl rfl (rp_lssT rfl rfl rfl (by first | assumption | omega | (dsimp only; omega))) ?_) | (refine AL.rpy rfl rfl rfl (rp_lssF rfl rfl rfl (by first | assumption | omega | (dsimp only; omega))) ?_) | (refine AL.rpy rfl rfl rfl (rp_lss rfl rfl rfl) ?_))
      refine AL.rp rfl rfl (rp_pick rfl rfl rfl) ?_
      refine AL.nil ?_
      try simp only [thenS, S.put]
      refine AW.condT rfl ?_
      refine AW.seq ?_
      refine AW.region ?_
      refine AL.rp rfl rfl (rp_move rfl rfl) ?_
      refine AL.rp rfl rfl (rp_move rfl rfl) ?_
      (first | (refine AL.rp rfl rfl (rp_index_own (k := a1) Tryd.underlying53 inf9 rfl rfl rfl (by omega) (by omega)) ?_) | (refine AL.rp rfl rfl (rp_index_map (k := a1) Tryd.underlying53 inf9 rfl rfl rfl (by omega) (by assumption)) ?_))
      (first | (refine AL.rd rfl rfl (rd_load_ref Tryd.underlying9 rfl rfl rfl rfl rfl rfl) ?_) | (refine AL.rd rfl rfl (rd_load_ad Tryd.underlying9 rfl rfl rfl rfl) ?_) | (refine AL.rd rfl rfl (rd_load_map Tryd.underlying9 rfl rfl rfl rfl rfl rfl (by assumption)) ?_) | (refine AL.rd rfl rfl (rd_load_flat Tryd.underlying9 rfl rfl rfl rfl rfl rfl (fun _ => rfl) (by assumption) rfl) ?_))
      refine AL.call (post := ?pc5) rfl (sm_call (args := [_]) ?hc5 ⟨Tryd.func53, rfl, rfl, rfl, rfl⟩ rfl rfl rfl rfl) ?_
      case hc5 => exact hlet
      rintro _ rfl -
      try dsimp only
      (first | (refine AL.rp rfl rfl (rp_field_ref Tryd.underlying60 rfl rfl rfl inf3 (by decide) rfl) ?_) | (refine AL.rp rfl rfl (rp_field_ad Tryd.underlying60 rfl rfl rfl inf3 (by decide) rfl) ?_))
      (first | (refine AL.st rfl (st_store_map2 inf3 rfl rfl rfl rfl rfl rfl rfl rfl (by first | assumption | omega)) ?_) | (refine AL.st rfl (st_store inf3 rfl rfl rfl rfl rfl rfl rfl (by first | decide | (simp; done)) rfl) ?_))
      refine AL.nil ?_
      try simp only [thenS, S.put, S.newObj, setL, V.cs, List.length_cons, List.length_nil, List.take_succ_cons, List.take_zero, List.drop_succ_cons, List.drop_zero, List.drop_nil, List.nil_append, List.cons_append, List.append_nil, Nat.zero_add, Nat.reduceAdd, List.map_cons, List.map_nil, List.set_cons_zero, List.set_cons_succ]
      refine AW.region ?_
      refine AL.rp rfl rfl (rp_move rfl rfl) ?_
      refine AL.rp rfl rfl (rp_add rfl rfl rfl (by first | omega | (dsimp only; omega))) ?_
      refine AL.rp rfl rfl (rp_assign rfl rfl) ?_
      refine AL.nil ?_
      try simp only [thenS, S.put]
      refine ⟨_, ?_, rfl⟩
      exact (Less.of rfl (by repeat (first | exact trivial | refine ⟨⟨_, rfl, Wk.refl _⟩, ?_⟩ | refine ⟨⟨_, rfl, Wk.nil _ _⟩, ?_⟩ | refine ⟨⟨_, rfl, Wk.junk _⟩, ?_⟩)) (by repeat (first | exact trivial | refine ⟨rfl, ?_⟩)) rfl)
     ·rw [nxt_N (by omega), Prod.mk.injEq] at h2
      obtain ⟨rfl, rfl⟩ := h2
      refine AW.seq ?_
      refine AW.region ?_
      refine AL.rp rfl rfl (rp_move rfl rfl) ?_
      refine AL.rp rfl rfl (rp_move rfl rfl) ?_
      (first | (refine AL.noV rfl rfl rfl rfl ?_) | (refine AL.noU rfl ⟨_, rfl, rfl⟩ rfl ?_) | (refine AL.rpy rfl rfl rfl (rp_move rfl rfl) ?_))
      (first | (refine AL.noV rfl rfl rfl rfl ?_) | (refine AL.noU rfl ⟨_, rfl, rfl⟩ rfl ?_) | (refine AL.rpy rfl rfl rfl (rp_move rfl rfl) ?_))
      (first | (refine AL.noV rfl rfl rfl rfl ?_) | (refine AL.noU rfl ⟨_, rfl, rfl⟩ rfl ?_) | (refine AL.rpy rfl rfl rfl (rp_len_map Tryd.underlying53 rfl rfl (by assumption)) ?_) | (refine AL.rpy rfl rfl rfl (rp_len_own Tryd.underlying53 rfl rfl) ?_) | (refine AL.rpy rfl rfl rfl (rp_len_sl Tryd.underlying53 rfl rfl) ?_) | (refine AL.rpy rfl rfl rfl (rp_len_nil Tryd.underlying53 rfl rfl) ?_) | (refine AL.rpy rfl rfl rfl (rp_len_str Tryd.underlying53 rfl rfl) ?_))
      (first | (refine AL.noV rfl rfl rfl rfl ?_) | (refine AL.noU rfl ⟨_, rfl, rfl⟩ rfl ?_) | (refine AL.rpy rfl rfl rfl (rp_lssT rfl rfl rfl (by first | assumption | omega | (dsimp only; omega))) ?_) | (refine AL.rpy rfl rfl rfl (rp_lssF rfl rfl rfl (by first | assumption | omega | (dsimp only; omega))) ?_) | (refine AL.rpy rfl rfl rfl (rp_lss rfl rfl rfl) ?_))
      refine AL.rp rfl rfl (rp_pick rfl rfl rfl) ?_
      refine AL.nil ?_
      try simp only [thenS, S.put]
      refine AW.condF rfl ?_
      refine AW.skip ?_
      try simp only [thenS]
      refine ⟨_, ?_, rfl⟩
      exact (Less.of rfl (by repeat (first | exact trivial | refine ⟨⟨_, rfl, Wk.refl _⟩, ?_⟩ | refine ⟨⟨_, rfl, Wk.nil _ _⟩, ?_⟩ | refine ⟨⟨_, rfl, Wk.junk _⟩, ?_⟩)) (by repeat (first | exact trivial | refine ⟨rfl, ?_⟩)) rfl)
    ·obtain rfl : ab = false := by cases ab <;> simp_all
     rw [nxt_F, Prod.mk.injEq] at h2
     obtain ⟨rfl, rfl⟩ := h2
     refine AW.seq ?_
     refine AW.region ?_
     refine AL.rp rfl rfl (rp_move rfl rfl) ?_
     refine AL.rp rfl rfl (rp_move rfl rfl) ?_
     (first | (refine AL.noV rfl rfl rfl rfl ?_) | (refine AL.noU rfl ⟨_, rfl, rfl⟩ rfl ?_) | (refine AL.rpy rfl rfl rfl (rp_move rfl rfl) ?_))
     (first | (refine AL.noV rfl rfl rfl rfl ?_) | (refine AL.noU rfl ⟨_, rfl, rfl⟩ rfl ?_) | (refine AL.rpy rfl rfl rfl (rp_move rfl rfl) ?_))
     (first | (refine AL.noV rfl rfl rfl rfl ?_) | (refine AL.noU rfl ⟨_, rfl, rfl⟩ rfl ?_) | (refine AL.rpy rfl rfl rfl (rp_len_map Tryd.underlying53 rfl rfl (by assumption)) ?_) | (refine AL.rpy rfl rfl rfl (rp_len_own Tryd.underlying53 rfl rfl) ?_) | (refine AL.rpy rfl rfl rfl (rp_len_sl Tryd.underlying53 rfl rfl) ?_) | (refine AL.rpy rfl rfl rfl (rp_len_nil Tryd.underlying53 rfl rfl) ?_) | (refine AL.rpy rfl rfl rfl (rp_len_str Tryd.underlying53 rfl rfl) ?_))
     (first | (refine AL.noV rfl rfl rfl rfl ?_) | (refine AL.noU rfl ⟨_, rfl, rfl⟩ rfl ?_) | (refine AL.rpy rfl rfl rfl (rp_lssT rfl rfl rfl (by first | assumption | omega | (dsimp only; omega))) ?_) | (refine AL.rpy rfl rfl rfl (rp_lssF rfl rfl rfl (by first | assumption | omega | (dsimp only; omega))) ?_) | (refine AL.rpy rfl rfl rfl (rp_lss rfl rfl rfl) ?_))
     refine AL.rp rfl rfl (rp_pick rfl rfl rfl) ?_
     refine AL.nil ?_
     try simp only [thenS, S.put]
     refine AW.condF rfl ?_
     refine AW.skip ?_
     try simp only [thenS]
     refine ⟨_, ?_, rfl⟩
     exact (Less.of rfl (by repeat (first | exact trivial | refine ⟨⟨_, rfl, Wk.refl _⟩, ?_⟩ | refine ⟨⟨_, rfl, Wk.nil _ _⟩, ?_⟩ | refine ⟨⟨_, rfl, Wk.junk _⟩, ?_⟩)) (by repeat (first | exact trivial | refine ⟨rfl, ?_⟩)) rfl)
   ·rintro s' rfl
    refine AW.seqc (fun s' => s' = ⟨105, [(2, .ref 2 0), (3, .d (strsD ws)), (4, .ref 4 0), (15, .b nb), (16, .i (a3 : Nat))], [(2, ⟨60, [.i 0, .i 0, .i 0, .i 0, .s ⟨#[]⟩], false, 0⟩), (4, ⟨60, [.i (k : Nat), .i t1, .i t2, .i t3, .s ⟨#[]⟩], false, 0⟩)], []⟩) ?_ ?_
    ·skip
     by_cases hn : bb = true
     ·subst hn
      by_cases hat : a2 < N
      ·obtain ⟨w, hw⟩ := get_lt hN hat
       have hlet := am_letter w
       rw [nxt_T hw, Prod.mk.injEq] at h3
       obtain ⟨rfl, rfl⟩ := h3
       refine AW.seq ?_
       refine AW.region ?_
       refine AL.rp rfl rfl (rp_move rfl rfl) ?_
       refine AL.rp rfl rfl (rp_move rfl rfl) ?_
       (first | (refine AL.noV rfl rfl rfl rfl ?_) | (refine AL.noU rfl ⟨_, rfl, rfl⟩ rfl ?_) | (refine AL.rpy rfl rfl rfl (rp_move rfl rfl) ?_))
       (first | (refine AL.noV rfl rfl rfl rfl ?_) | (refine AL.noU rfl ⟨_, rfl, rfl⟩ rfl ?_) | (refine AL.rpy rfl rfl rfl (rp_move rfl rfl) ?_))
       (first | (refine AL.noV rfl rfl rfl rfl ?_) | (refine AL.noU rfl ⟨_, rfl, rfl⟩ rfl ?_) | (refine AL.rpy rfl rfl rfl (rp_len_map Tryd.underlying53 rfl rfl (by assumption)) ?_) | (refine AL.rpy rfl rfl rfl (rp_len_own Tryd.underlying53 rfl rfl) ?_) | (refine AL.rpy rfl rfl rfl (rp_len_sl Tryd.underlying53 rfl rfl) ?_) | (refine AL.rpy rfl rfl rfl (rp_len_nil Tryd.underlying53 rfl rfl) ?_) | (refine AL.rpy rfl rfl rfl (rp_len_str Tryd.underlying53 rfl rfl) ?_))
       (first | (refine AL.noV rfl rfl rfl rfl ?_) | (refine AL.noU rfl ⟨_, rfl, rfl⟩ rfl ?_) | (refine AL.rpy rfl rfl rfl (rp_lssT rfl rfl rfl (by first | assumption | omega | (dsimp only; omega))) ?_) | (refine AL.rpy rfl rfl rfl (rp_lssF rfl rfl rfl (by first | assumption | omega | (dsimp only; omega))) ?_) | (refine AL.rpy rfl rfl rfl (rp_lss rfl rfl rfl) ?_))
       refine AL.rp rfl rfl (rp_pick rfl rfl rfl) ?_
       refine AL.nil ?_
       try simp only [thenS, S.put]
       refine AW.condT rfl ?_
       refine AW.seq ?_
       refine AW.region ?_
       refine AL.rp rfl rfl (rp_move rfl rfl) ?_
       refine AL.rp rfl rfl (rp_move rfl rfl) ?_
       (first | (refine AL.rp rfl rfl (rp_index_own (k := a2) Tryd.underlying53 inf9 rfl rfl rfl (by omega) (by omega)) ?_) | (refine AL.rp rfl rfl (rp_index_map (k := a2) Tryd.underlying53 inf9 rfl rfl rfl (by omega) (by assumption)) ?_))
       (first | (refine AL.rd rfl rfl (rd_load_ref Tryd.underlying9 rfl rfl rfl rfl rfl rfl) ?_) | (refine AL.rd rfl rfl (rd_load_ad Tryd.underlying9 rfl rfl rfl rfl) ?_) | (refine AL.rd rfl rfl (rd_load_map Tryd.underlying9 rfl rfl rfl rfl rfl rfl (by assumption)) ?_) | (refine AL.rd rfl rfl (rd_load_flat Tryd.underlying9 rfl rfl rfl rfl rfl rfl (fun _ => rfl) (by assumption) rfl) ?_))
       refine AL.call (post := ?pc6) rfl (sm_call (args := [_]) ?hc6 ⟨Tryd.func53, rfl, rfl, rfl, rfl⟩ rfl rfl rfl rfl) ?_
       case hc6 => exact hlet
       rintro _ rfl -
       try dsimp only
       (first | (refine AL.rp rfl rfl (rp_field_ref Tryd.underlying60 rfl rfl rfl inf3 (by decide) rfl) ?_) | (refine AL.rp rfl rfl (rp_field_ad Tryd.underlying60 rfl rfl rfl inf3 (by decide) rfl) ?_))
       (first | (refine AL.st rfl (st_store_map2 inf3 rfl rfl rfl rfl rfl rfl rfl rfl (by first | assumption | omega)) ?_) | (refine AL.st rfl (st_store inf3 rfl rfl rfl rfl rfl rfl rfl (by first | decide | (simp; done)) rfl) ?_))
       refine AL.nil ?_
       try simp only [thenS, S.put, S.newObj, setL, V.cs, List.length_cons, List.length_nil, List.take_succ_cons, List.take_zero, List.drop_succ_cons, List.drop_zero, List.drop_nil, List.nil_append, List.cons_append, List.append_nil, Nat.zero_add, Nat.reduceAdd, List.map_cons, List.map_nil, List.set_cons_zero, List.set_cons_succ]
       refine AW.region ?_
       refine AL.rp rfl rfl (rp_move rfl rfl) ?_
       refine AL.rp rfl rfl (rp_add rfl rfl rfl (by first | omega | (dsimp only; omega))) ?_
       refine AL.rp rfl rfl (rp_assign rfl rfl) ?_
       refine AL.nil ?_
       try simp only [thenS, S.put]
       refine ⟨_, ?_, rfl⟩
       exact (Less.of rfl (by repeat (first | exact trivial | refine ⟨⟨_, rfl, Wk.refl _⟩, ?_⟩ | refine ⟨⟨_, rfl, Wk.nil _ _⟩, ?_⟩ | refine ⟨⟨_, rfl, Wk.junk _⟩, ?_⟩)) (by repeat (first | exact trivial | refine ⟨rfl, ?_⟩)) rfl)
      ·rw [nxt_N (by omega), Prod.mk.injEq] at h3
       obtain ⟨rfl, rfl⟩ := h3
       refine AW.seq ?_
       refine AW.region ?_
       refine AL.rp rfl rfl (rp_move rfl rfl) ?_
       refine AL.rp rfl rfl (rp_move rfl rfl) ?_
       (first | (refine AL.noV rfl rfl rfl rfl ?_) | (refine AL.noU rfl ⟨_, rfl, rfl⟩ rfl ?_) | (refine AL.rpy rfl rfl rfl (rp_move rfl rfl) ?_))
       (first | (refine AL.noV rfl rfl rfl rfl ?_) | (refine AL.noU rfl ⟨_, rfl, rfl⟩ rfl ?_) | (refine AL.rpy rfl rfl rfl (rp_move rfl rfl) ?_))
       (first | (refine AL.noV rfl rfl rfl rfl ?_) | (refine AL.noU rfl ⟨_, rfl, rfl⟩ rfl ?_) | (refine AL.rpy rfl rfl rfl (rp_len_map Tryd.underlying53 rfl rfl (by assumption)) ?_) | (refine AL.rpy rfl rfl rfl (rp_len_own Tryd.underlying53 rfl rfl) ?_) | (refine AL.rpy rfl rfl rfl (rp_len_sl Tryd.underlying53 rfl rfl) ?_) | (refine AL.rpy rfl rfl rfl (rp_len_nil Tryd.underlying53 rfl rfl) ?_) | (refine AL.rpy rfl rfl rfl (rp_len_str Tryd.underlying53 rfl rfl) ?_))
       (first | (refine AL.noV rfl rfl rfl rfl ?_) | (refine AL.noU rfl ⟨_, rfl, rfl⟩ rfl ?_) | (refine AL.rpy rfl rfl rfl (rp_lssT rfl rfl rfl (by first | assumption | omega | (dsimp only; omega))) ?_) | (refine AL.rpy rfl rfl rfl (rp_lssF rfl rfl rfl (by first | assumption | omega | (dsimp only; omega))) ?_) | (refine AL.rpy rfl rfl rfl (rp_lss rfl rfl rfl) ?_))
       refine AL.rp rfl rfl (rp_pick rfl rfl rfl) ?_
       refine AL.nil ?_
       try simp only [thenS, S.put]
       refine AW.condF rfl ?_
       refine AW.skip ?_
       try simp only [thenS]
       refine ⟨_, ?_, rfl⟩
       exact (Less.of rfl (by repeat (first | exact trivial | refine ⟨⟨_, rfl, Wk.refl _⟩, ?_⟩ | refine ⟨⟨_, rfl, Wk.nil _ _⟩, ?_⟩ | refine ⟨⟨_, rfl, Wk.junk _⟩, ?_⟩)) (by repeat (first | exact trivial | refine ⟨rfl, ?_⟩)) rfl)
     ·obtain rfl : bb = false := by cases bb <;> simp_all
      rw [nxt_F, Prod.mk.injEq] at h3
      obtain ⟨rfl, rfl⟩ := h3
      refine AW.seq ?_
      refine AW.region ?_
      refine AL.rp rfl rfl (rp_move rfl rfl) ?_
      refine AL.rp rfl rfl (rp_move rfl rfl) ?_
      (first | (refine AL.noV rfl rfl rfl rfl ?_) | (refine AL.noU rfl ⟨_, rfl, rfl⟩ rfl ?_) | (refine AL.rpy rfl rfl rfl (rp_move rfl rfl) ?_))
      (first | (refine AL.noV rfl rfl rfl rfl ?_) | (refine AL.noU rfl ⟨_, rfl, rfl⟩ rfl ?_) | (refine AL.rpy rfl rfl rfl (rp_move rfl rfl) ?_))
      (first | (refine AL.noV rfl rfl rfl rfl ?_) | (refine AL.noU rfl ⟨_, rfl, rfl⟩ rfl ?_) | (refine AL.rpy rfl rfl rfl (rp_len_map Tryd.underlying53 rfl rfl (by assumption)) ?_) | (refine AL.rpy rfl rfl rfl (rp_len_own Tryd.underlying53 rfl rfl) ?_) | (refine AL.rpy rfl rfl rfl (rp_len_sl Tryd.underlying53 rfl rfl) ?_) | (refine AL.rpy rfl rfl rfl (rp_len_nil Tryd.underlying53 rfl rfl) ?_) | (refine AL.rpy rfl rfl rfl (rp_len_str Tryd.underlying53 rfl rfl) ?_))
      (first | (refine AL.noV rfl rfl rfl rfl ?_) | (refine AL.noU rfl ⟨_, rfl, rfl⟩ rfl ?_) | (refine AL.rpy rfl rfl rfl (rp_lssT rfl rfl rfl (by first | assumption | omega | (dsimp only; omega))) ?_) | (refine AL.rpy rfl rfl rfl (rp_lssF rfl rfl rfl (by first | assumption | omega | (dsimp only; omega))) ?_) | (refine AL.rpy rfl rfl rfl (rp_lss rfl rfl rfl) ?_))
      refine AL.rp rfl rfl (rp_pick rfl rfl rfl) ?_
      refine AL.nil ?_
      try simp only [thenS, S.put]
      refine AW.condF rfl ?_
      refine AW.skip ?_
      try simp only [thenS]
      refine ⟨_, ?_, rfl⟩
      exact (Less.of rfl (by repeat (first | exact trivial | refine ⟨⟨_, rfl, Wk.refl _⟩, ?_⟩ | refine ⟨⟨_, rfl, Wk.nil _ _⟩, ?_⟩ | refine ⟨⟨_, rfl, Wk.junk _⟩, ?_⟩)) (by repeat (first | exact trivial | refine ⟨rfl, ?_⟩)) rfl)
    ·rintro s' rfl
     by_cases hn : nb = true
     ·subst hn
      by_cases hat : a3 < N
      ·obtain ⟨w, hw⟩ := get_lt hN hat
       have hR : (if true = true ∧ a3 < N then bs (ws[a3]?.getD []) else ⟨#[]⟩) = bs w := by rw [if_pos ⟨rfl, hat⟩, hw]; rfl
       rw [hR]
       refine AW.seq ?_
       refine AW.seq ?_
       refine AW.region ?_
       refine AL.rp rfl rfl (rp_move rfl rfl) ?_
       refine AL.rp rfl rfl (rp_move rfl rfl) ?_
       (first | (refine AL.noV rfl rfl rfl rfl ?_) | (refine AL.noU rfl ⟨_, rfl, rfl⟩ rfl ?_) | (refine AL.rpy rfl rfl rfl (rp_move rfl rfl) ?_))
       (first | (refine AL.noV rfl rfl rfl rfl ?_) | (refine AL.noU rfl ⟨_, rfl, rfl⟩ rfl ?_) | (refine AL.rpy rfl rfl rfl (rp_move rfl rfl) ?_))
       (first | (refine AL.noV rfl rfl rfl rfl ?_) | (refine AL.noU rfl ⟨_, rfl, rfl⟩ rfl ?_) | (refine AL.rpy rfl rfl rfl (rp_len_map Tryd.underlying53 rfl rfl (by assumption)) ?_) | (refine AL.rpy rfl rfl rfl (rp_len_own Tryd.underlying53 rfl rfl) ?_) | (refine AL.rpy rfl rfl rfl (rp_len_sl Tryd.underlying53 rfl rfl) ?_) | (refine AL.rpy rfl rfl rfl (rp_len_nil Tryd.underlying53 rfl rfl) ?_) | (refine AL.rpy rfl rfl rfl (rp_len_str Tryd.underlying53 rfl rfl) ?_))
       (first | (refine AL.noV rfl rfl rfl rfl ?_) | (refine AL.noU rfl ⟨_, rfl, rfl⟩ rfl ?_) | (refine AL.rpy rfl rfl rfl (rp_lssT rfl rfl rfl (by first | assumption | omega | (dsimp only; omega))) ?_) | (refine AL.rpy rfl rfl rfl (rp_lssF rfl rfl rfl (by first | assumption | omega | (dsimp only; omega))) ?_) | (refine AL.rpy rfl rfl rfl (rp_lss rfl rfl rfl) ?_))
       refine AL.rp rfl rfl (rp_pick rfl rfl rfl) ?_
       refine AL.nil ?_
       try simp only [thenS, S.put]
       refine AW.condT rfl ?_
       refine AW.region ?_
       refine AL.rp rfl rfl (rp_move rfl rfl) ?_
       refine AL.rp rfl rfl (rp_move rfl rfl) ?_
       (first | (refine AL.rp rfl rfl (rp_index_own (k := a3) Tryd.underlying53 inf9 rfl rfl rfl (by omega) (by omega)) ?_) | (refine AL.rp rfl rfl (rp_index_map (k := a3) Tryd.underlying53 inf9 rfl rfl rfl (by omega) (by assumption)) ?_))
       (first | (refine AL.rd rfl rfl (rd_load_ref Tryd.underlying9 rfl rfl rfl rfl rfl rfl) ?_) | (refine AL.rd rfl rfl (rd_load_ad Tryd.underlying9 rfl rfl rfl rfl) ?_) | (refine AL.rd rfl rfl (rd_load_map Tryd.underlying9 rfl rfl rfl rfl rfl rfl (by assumption)) ?_) | (refine AL.rd rfl rfl (rd_load_flat Tryd.underlying9 rfl rfl rfl rfl rfl rfl (fun _ => rfl) (by assumption) rfl) ?_))
       (first | (refine AL.rp rfl rfl (rp_field_ref Tryd.underlying60 rfl rfl rfl inf9 (by decide) rfl) ?_) | (refine AL.rp rfl rfl (rp_field_ad Tryd.underlying60 rfl rfl rfl inf9 (by decide) rfl) ?_))
       (first | (refine AL.st rfl (st_store_map2 inf9 rfl rfl rfl rfl rfl rfl rfl rfl (by first | assumption | omega)) ?_) | (refine AL.st rfl (st_store inf9 rfl rfl rfl rfl rfl rfl rfl (by first | decide | (simp; done)) rfl) ?_))
       refine AL.nil ?_
       try simp only [thenS, S.put, S.newObj, setL, V.cs, List.length_cons, List.length_nil, List.take_succ_cons, List.take_zero, List.drop_succ_cons, List.drop_zero, List.drop_nil, List.nil_append, List.cons_append, List.append_nil, Nat.zero_add, Nat.reduceAdd, List.map_cons, List.map_nil, List.set_cons_zero, List.set_cons_succ]
       refine AW.seq ?_
       refine AW.region ?_
       (first | (refine AL.rd rfl rfl (rd_loads_ref Tryd.underlying60 rfl inf60 rfl rfl rfl rfl rfl rfl) ?_) | (refine AL.rd rfl rfl (rd_loads_ad Tryd.underlying60 rfl inf60 rfl rfl rfl rfl) ?_))
       refine AL.st rfl (st_store_any inf60 rfl rfl rfl rfl rfl rfl rfl rfl (by first | decide | (simp; done) | (simp; omega)) rfl) ?_
       refine AL.nil ?_
       try simp only [thenS, S.put, S.newObj, setL, V.cs, List.length_cons, List.length_nil, List.take_succ_cons, List.take_zero, List.drop_succ_cons, List.drop_zero, List.drop_nil, List.nil_append, List.cons_append, List.append_nil, Nat.zero_add, Nat.reduceAdd, List.map_cons, List.map_nil, List.set_cons_zero, List.set_cons_succ]
       refine AW.ret ?_
       exact ⟨[_], ⟨⟨2, 0, _, _, rfl, rfl, rfl, Tryd.underlying60, .inr ⟨rfl, _, _, _, _, inf60, rfl, rfl, rfl⟩⟩, trivial⟩, rfl, by simp [tupOf, V.pure, V.has, V.hasL]⟩
      ·have hR : (if true = true ∧ a3 < N then bs (ws[a3]?.getD []) else (⟨#[]⟩ : ByteArray)) = ⟨#[]⟩ := if_neg fun h => hat h.2
       rw [hR]
       refine AW.seq ?_
       refine AW.seq ?_
       refine AW.region ?_
       refine AL.rp rfl rfl (rp_move rfl rfl) ?_
       refine AL.rp rfl rfl (rp_move rfl rfl) ?_
       (first | (refine AL.noV rfl rfl rfl rfl ?_) | (refine AL.noU rfl ⟨_, rfl, rfl⟩ rfl ?_) | (refine AL.rpy rfl rfl rfl (rp_move rfl rfl) ?_))
       (first | (refine AL.noV rfl rfl rfl rfl ?_) | (refine AL.noU rfl ⟨_, rfl, rfl⟩ rfl ?_) | (refine AL.rpy rfl rfl rfl (rp_move rfl rfl) ?_))
       (first | (refine AL.noV rfl rfl rfl rfl ?_) | (refine AL.noU rfl ⟨_, rfl, rfl⟩ rfl ?_) | (refine AL.rpy rfl rfl rfl (rp_len_map Tryd.underlying53 rfl rfl (by assumption)) ?_) | (refine AL.rpy rfl rfl rfl (rp_len_own Tryd.underlying53 rfl rfl) ?_) | (refine AL.rpy rfl rfl rfl (rp_len_sl Tryd.underlying53 rfl rfl) ?_) | (refine AL.rpy rfl rfl rfl (rp_len_nil Tryd.underlying53 rfl rfl) ?_) | (refine AL.rpy rfl rfl rfl (rp_len_str Tryd.underlying53 rfl rfl) ?_))
       (first | (refine AL.noV rfl rfl rfl rfl ?_) | (refine AL.noU rfl ⟨_, rfl, rfl⟩ rfl ?_) | (refine AL.rpy rfl rfl rfl (rp_lssT rfl rfl rfl (by first | assumption | omega | (dsimp only; omega))) ?_) | (refine AL.rpy rfl rfl rfl (rp_lssF rfl rfl rfl (by first | assumption | omega | (dsimp only; omega))) ?_) | (refine AL.rpy rfl rfl rfl (rp_lss rfl rfl rfl) ?_))
       refine AL.rp rfl rfl (rp_pick rfl rfl rfl) ?_
       refine AL.nil ?_
       try simp only [thenS, S.put]
       refine AW.condF rfl ?_
       refine AW.skip ?_
       try simp only [thenS]
       refine AW.seq ?_
       refine AW.region ?_
       (first | (refine AL.rd rfl rfl (rd_loads_ref Tryd.underlying60 rfl inf60 rfl rfl rfl rfl rfl rfl) ?_) | (refine AL.rd rfl rfl (rd_loads_ad Tryd.underlying60 rfl inf60 rfl rfl rfl rfl) ?_))
       refine AL.st rfl (st_store_any inf60 rfl rfl rfl rfl rfl rfl rfl rfl (by first | decide | (simp; done) | (simp; omega)) rfl) ?_
       refine AL.nil ?_
       try simp only [thenS, S.put, S.newObj, setL, V.cs, List.length_cons, List.length_nil, List.take_succ_cons, List.take_zero, List.drop_succ_cons, List.drop_zero, List.drop_nil, List.nil_append, List.cons_append, List.append_nil, Nat.zero_add, Nat.reduceAdd, List.map_cons, List.map_nil, List.set_cons_zero, List.set_cons_succ]
       refine AW.ret ?_
       exact ⟨[_], ⟨⟨2, 0, _, _, rfl, rfl, rfl, Tryd.underlying60, .inr ⟨rfl, _, _, _, _, inf60, rfl, rfl, rfl⟩⟩, trivial⟩, rfl, by simp [tupOf, V.pure, V.has, V.hasL]⟩
     ·obtain rfl : nb = false := by cases nb <;> simp_all
      have hR : (if false = true ∧ a3 < N then bs (ws[a3]?.getD []) else (⟨#[]⟩ : ByteArray)) = ⟨#[]⟩ := if_neg fun h => by cases h.1
      rw [hR]
      refine AW.seq ?_
      refine AW.seq ?_
      refine AW.region ?_
      refine AL.rp rfl rfl (rp_move rfl rfl) ?_
      refine AL.rp rfl rfl (rp_move rfl rfl) ?_
      (first | (refine AL.noV rfl rfl rfl rfl ?_) | (refine AL.noU rfl ⟨_, rfl, rfl⟩ rfl ?_) | (refine AL.rpy rfl rfl rfl (rp_move rfl rfl) ?_))
      (first | (refine AL.noV rfl rfl rfl rfl ?_) | (refine AL.noU rfl ⟨_, rfl, rfl⟩ rfl ?_) | (refine AL.rpy rfl rfl rfl (rp_move rfl rfl) ?_))
      (first | (refine AL.noV rfl rfl rfl rfl ?_) | (refine AL.noU rfl ⟨_, rfl, rfl⟩ rfl ?_) | (refine AL.rpy rfl rfl rfl (rp_len_map Tryd.underlying53 rfl rfl (by assumption)) ?_) | (refine AL.rpy rfl rfl rfl (rp_len_own Tryd.underlying53 rfl rfl) ?_) | (refine AL.rpy rfl rfl rfl (rp_len_sl Tryd.underlying53 rfl rfl) ?_) | (refine AL.rpy rfl rfl rfl (rp_len_nil Tryd.underlying53 rfl rfl) ?_) | (refine AL.rpy rfl rfl rfl (rp_len_str Tryd.underlying53 rfl rfl) ?_))
      (first | (refine AL.noV rfl rfl rfl rfl ?_) | (refine AL.noU rfl ⟨_, rfl, rfl⟩ rfl ?_) | (refine AL.rpy rfl rfl rfl (rp_lssT rfl rfl rfl (by first | assumption | omega | (dsimp only; omega))) ?_) | (refine AL.rpy rfl rfl rfl (rp_lssF rfl rfl rfl (by first | assumption | omega | (dsimp only; omega))) ?_) | (refine AL.rpy rfl rfl rfl (rp_lss rfl rfl rfl) ?_))
      refine AL.rp rfl rfl (rp_pick rfl rfl rfl) ?_
      refine AL.nil ?_
      try simp only [thenS, S.put]
      refine AW.condF rfl ?_
      refine AW.skip ?_
      try simp only [thenS]
      refine AW.seq ?_
      refine AW.region ?_
      (first | (refine AL.rd rfl rfl (rd_loads_ref Tryd.underlying60 rfl inf60 rfl rfl rfl rfl rfl rfl) ?_) | (refine AL.rd rfl rfl (rd_loads_ad Tryd.underlying60 rfl inf60 rfl rfl rfl rfl) ?_))
      refine AL.st rfl (st_store_any inf60 rfl rfl rfl rfl rfl rfl rfl rfl (by first | decide | (simp; done) | (simp; omega)) rfl) ?_
      refine AL.nil ?_
      try simp only [thenS, S.put, S.newObj, setL, V.cs, List.length_cons, List.length_nil, List.take_succ_cons, List.take_zero, List.drop_succ_cons, List.drop_zero, List.drop_nil, List.nil_append, List.cons_append, List.append_nil, Nat.zero_add, Nat.reduceAdd, List.map_cons, List.map_nil, List.set_cons_zero, List.set_cons_succ]
      refine AW.ret ?_
      exact ⟨[_], ⟨⟨2, 0, _, _, rfl, rfl, rfl, Tryd.underlying60, .inr ⟨rfl, _, _, _, _, inf60, rfl, rfl, rfl⟩⟩, trivial⟩, rfl, by simp [tupOf, V.pure, V.has, V.hasL]⟩
end Go.Proofs.YtlgnjehfojogmaaDoor
namespace Go.Proofs.YtlgnjehfojogmaaDoor
open Go.RowKit
set_option linter.unusedSimpArgs false
set_option linter.unusedVariables false

theorem wd_inj : ∀ i, i < 16 → ∀ j, j < 16 → 1 ≤ i → 1 ≤ j → wdK i = wdK j → i = j := by decide +kernel
theorem wd_no : ∀ k, k < 16 → 1 ≤ k → (32 : UInt8) ∉ (wdK k).data.toList ∧ (10 : UInt8) ∉ (wdK k).data.toList := by decide +kernel
theorem stpF_find {ws : List (List UInt8)} {k : Nat} (h1 : 1 ≤ k) (h2 : k ≤ 15) (hw : wdK k = bs (ws[0]?.getD [])) (hl : ws.length = (arK (ptK k)).size + 1) : stpF ws 15 = fillS ws (arK (ptK k)).data.toList 0 ⟨(k : Nat), 0, 0, 0, ⟨#[]⟩⟩ := by
  have key : ∀ d i, i + d + 1 = k → stpF ws (15 - i) = fillS ws (arK (ptK k)).data.toList 0 ⟨(k : Nat), 0, 0, 0, ⟨#[]⟩⟩ := by
    intro d
    induction d with
    | zero =>
      intro i hi
      obtain rfl : k = i + 1 := by omega
      rw [stpF_step (by omega), if_pos ⟨hw, hl⟩]
    | succ d ih =>
      intro i hi
      rw [stpF_step (by omega), if_neg, ih (i + 1) (by omega)]
      rintro ⟨h, _⟩
      have := wd_inj (i + 1) (by omega) k (by omega) (by omega) h1 (h.trans hw.symm)
      omega
  exact key (k - 1) 0 (by omega)
theorem knd_find {p : List UInt8} {k : Nat} (h1 : 1 ≤ k) (hw : wdK k = bs p) : ∀ j, k ≤ j → j ≤ 15 → knd p j = k
  | 0, h, _ => absurd h (by omega)
  | j + 1, h, hj => by
    by_cases e : j + 1 = k
    · subst e
      rw [knd, if_pos hw]
    · rw [knd, if_neg, knd_find h1 hw j (by omega) (by omega)]
      intro h'
      exact e (wd_inj (j + 1) (by omega) k (by omega) (by omega) h1 (h'.trans hw.symm))
theorem stE_0 {x : Stp} (h : stE x = 0) : (1 ≤ x.k ∧ x.k ≤ 15) ∧ ¬ badR (ptK x.k.toNat) x ∧ ¬ badN (ptK x.k.toNat) x ∧ ¬ badF (ptK x.k.toNat) x := by
  unfold stE at h
  split at h
  · omega
  split at h
  · omega
  split at h
  · omega
  split at h
  · omega
  rename_i h1 h2 h3 h4
  exact ⟨Classical.not_not.1 h1, h2, h3, h4⟩
/-- A register's letter. -/
def ltB (r : Int) : UInt8 := UInt8.ofNat (97 + r.toNat)
theorem ltB_nat {r : Int} (h : rgOk r) : (ltB r).toNat = 97 + r.toNat := by
  obtain ⟨h1, h2⟩ : 0 ≤ r ∧ r ≤ 25 := h
  unfold ltB
  simp only [UInt8.toNat_ofNat']
  omega
theorem ltB_reg {r : Int} (h : rgOk r) : regW [ltB r] = r := by
  have h0 := h
  obtain ⟨h1, h2⟩ : 0 ≤ r ∧ r ≤ 25 := h
  show ((ltB r).toNat : Int) - 97 = r
  rw [ltB_nat h0]
  omega
theorem ltB_let {r : Int} (h : rgOk r) : letW [ltB r] = r := by
  have h0 := h
  obtain ⟨h1, h2⟩ : 0 ≤ r ∧ r ≤ 25 := h
  show (if 97 ≤ (ltB r).toNat ∧ (ltB r).toNat ≤ 122 then ((ltB r).toNat : Int) - 97 else -1) = r
  rw [ltB_nat h0, if_pos (by omega)]
  omega
theorem ltB_no {r : Int} (h : rgOk r) : (32 : UInt8) ∉ [ltB r] ∧ (10 : UInt8) ∉ [ltB r] := by
  have h0 := ltB_nat h
  refine ⟨fun hm => ?_, fun hm => ?_⟩
  all_goals
    simp only [List.mem_singleton] at hm
    rw [← hm] at h0
    simp at h0
    try omega
/-- A step's words. -/
def wdO (x : Stp) : List (List UInt8) :=
  let p := ptK x.k.toNat
  (wdK x.k.toNat).data.toList :: ((if hasT p then [[ltB x.t]] else []) ++ (if hasA p then [[ltB x.a]] else []) ++ (if hasB p then [[ltB x.b]] else []) ++ (if hasN p then [x.n.data.toList] else []))
/-- Words with blanks between them. -/
def glue : List (List UInt8) → List UInt8
  | [] => []
  | [w] => w
  | w :: l => w ++ 32 :: glue l
theorem prt_glue : ∀ {l : List (List UInt8)}, l ≠ [] → (∀ w ∈ l, (32 : UInt8) ∉ w) → prt (glue l) = l
  | [w], _, h => prt_one (h w List.mem_cons_self)
  | w :: v :: l, _, h => by
    rw [show glue (w :: v :: l) = w ++ 32 :: glue (v :: l) from rfl, prt_cons (h w List.mem_cons_self), prt_glue (by simp) fun u hu => h u (List.mem_cons_of_mem _ hu)]
theorem glue_no {c : UInt8} (hc : c ≠ 32) : ∀ {l : List (List UInt8)}, (∀ w ∈ l, c ∉ w) → c ∉ glue l
  | [], _ => by simp [glue]
  | [w], h => h w List.mem_cons_self
  | w :: v :: l, h => by
    rw [show glue (w :: v :: l) = w ++ 32 :: glue (v :: l) from rfl]
    intro hm
    rcases List.mem_append.1 hm with hm | hm
    · exact h w List.mem_cons_self hm
    · rcases List.mem_cons.1 hm with hm | hm
      · exact hc hm
      · exact glue_no hc (fun u hu => h u (List.mem_cons_of_mem _ hu)) hm
theorem wdO_no {x : Stp} (h : stE x = 0) : ∀ w ∈ wdO x, (32 : UInt8) ∉ w ∧ (10 : UInt8) ∉ w := by
  obtain ⟨⟨h1, h2⟩, h3, h4, _⟩ := stE_0 h
  obtain ⟨p, hp⟩ : ∃ p, ptK x.k.toNat = p := ⟨_, rfl⟩
  rw [hp] at h3 h4
  intro w hw
  unfold wdO at hw
  dsimp only at hw
  rw [hp] at hw
  rcases List.mem_cons.1 hw with rfl | hw
  · exact wd_no x.k.toNat (by omega) (by omega)
  simp only [List.append_assoc, List.mem_append] at hw
  rcases hw with hw | hw | hw | hw
  all_goals
    split at hw
    rotate_left
    · cases hw
    rename_i hh
    simp only [List.mem_singleton] at hw
    subst hw
  · exact ltB_no (Classical.byContradiction fun hr => h3 (.inl ⟨hh, hr⟩))
  · exact ltB_no (Classical.byContradiction fun hr => h3 (.inr (.inl ⟨hh, hr⟩)))
  · exact ltB_no (Classical.byContradiction fun hr => h3 (.inr (.inr ⟨hh, hr⟩)))
  · have hb : nmB x.n.data.toList = true := by
      cases e : nmB x.n.data.toList with
      | true => rfl
      | false => exact absurd ⟨hh, e⟩ h4
    exact ⟨fun hm => (nmB_byte hb hm).2 rfl, fun hm => (nmB_byte hb hm).1 rfl⟩
theorem p4 {p : Nat} (h : p < 4) : p = 0 ∨ p = 1 ∨ p = 2 ∨ p = 3 := by omega
/-- A good step's line, and what both readers take it for. -/
theorem stp_read {x : Stp} (h : stE x = 0) : (stS x).data.toList = glue (wdO x) ++ [10] ∧ stpF (wdO x) 15 = x ∧ soS (wdO x) = x := by
  obtain ⟨⟨h1, h2⟩, h3, h4, h5⟩ := stE_0 h
  obtain ⟨k, hk⟩ : ∃ k : Nat, x.k = k := ⟨x.k.toNat, by omega⟩
  have hkt : x.k.toNat = k := by omega
  have hS : stS x = lnK k x := by unfold stS; rw [if_pos h, hkt]
  rw [hS]
  obtain ⟨p, hp⟩ : ∃ p, ptK k = p := ⟨_, rfl⟩
  have hp4 : p < 4 := hp ▸ ptK_lt k (by omega)
  rw [hkt, hp] at h3 h4 h5
  obtain ⟨xk, xt, xa, xb, xn⟩ := x
  simp only at hk hkt h1 h2
  subst hk
  clear hS h hkt
  have hwo : (wdO ⟨(k : Nat), xt, xa, xb, xn⟩)[0]? = some (wdK k).data.toList := by unfold wdO; simp
  have hw : wdK k = bs ((wdO ⟨(k : Nat), xt, xa, xb, xn⟩)[0]?.getD []) := by rw [hwo, Option.getD_some, bs_of]
  have hkn := knd_find (p := (wdO ⟨(k : Nat), xt, xa, xb, xn⟩)[0]?.getD []) (by omega) hw 15 (by omega) (by omega)
  have hf : (wdO ⟨(k : Nat), xt, xa, xb, xn⟩).length = (arK (ptK k)).size + 1 → stpF (wdO ⟨(k : Nat), xt, xa, xb, xn⟩) 15 = _ := stpF_find (by omega) (by omega) hw
  have hk0 : ¬ k = 0 := by omega
  unfold soS
  dsimp only
  rw [hkn]
  unfold kT kA kB kN
  rw [if_neg hk0, if_neg hk0, if_neg hk0, if_neg hk0]
  rw [hp] at hf ⊢
  clear hkn hwo
  have e0 : wdO ⟨(k : Nat), xt, xa, xb, xn⟩ = (wdK k).data.toList :: ((if hasT p then [[ltB xt]] else []) ++ (if hasA p then [[ltB xa]] else []) ++ (if hasB p then [[ltB xb]] else []) ++ (if hasN p then [xn.data.toList] else [])) := by
    unfold wdO
    dsimp only
    rw [Int.toNat_natCast, hp]
  rw [e0] at hf ⊢
  clear e0 hw
  unfold lnK
  rw [hp]
  have lt : ∀ r : Int, (ltR r).data.toList = [32, ltB r] := fun r => rfl
  rcases p4 hp4 with rfl | rfl | rfl | rfl
  · have hxt : rgOk xt := Classical.byContradiction fun hr => h3 (.inl ⟨rfl, hr⟩)
    have hxa : xa = 0 := Classical.byContradiction fun hr => h5 (.inr (.inl ⟨rfl, hr⟩))
    have hxb : xb = 0 := Classical.byContradiction fun hr => h5 (.inr (.inr (.inl ⟨rfl, hr⟩)))
    subst hxa hxb
    have h := hf rfl
    refine ⟨?_, ?_, ?_⟩
    · simp [hasT, hasA, hasB, hasN, glue, ByteArray.data_append, lt]
    · rw [h, ar0]
      simp [hasT, hasA, hasB, hasN, fillS, setS, ltB_reg hxt, bs_of]
    · simp [hasT, hasA, hasB, hasN, nxt, ltB_let hxt, bs_of]
  · have hxt : rgOk xt := Classical.byContradiction fun hr => h3 (.inl ⟨rfl, hr⟩)
    have hxa : rgOk xa := Classical.byContradiction fun hr => h3 (.inr (.inl ⟨rfl, hr⟩))
    have hxb : rgOk xb := Classical.byContradiction fun hr => h3 (.inr (.inr ⟨rfl, hr⟩))
    have hxn : xn = ⟨#[]⟩ := Classical.byContradiction fun hr => h5 (.inr (.inr (.inr ⟨rfl, hr⟩)))
    subst hxn
    have h := hf rfl
    refine ⟨?_, ?_, ?_⟩
    · simp [hasT, hasA, hasB, hasN, glue, ByteArray.data_append, lt]
    · rw [h, ar1]
      simp [hasT, hasA, hasB, hasN, fillS, setS, ltB_reg hxt, ltB_reg hxa, ltB_reg hxb, bs_of]
    · simp [hasT, hasA, hasB, hasN, nxt, ltB_let hxt, ltB_let hxa, ltB_let hxb, bs_of]
  · have hxt : rgOk xt := Classical.byContradiction fun hr => h3 (.inl ⟨rfl, hr⟩)
    have hxa : rgOk xa := Classical.byContradiction fun hr => h3 (.inr (.inl ⟨rfl, hr⟩))
    have hxb : xb = 0 := Classical.byContradiction fun hr => h5 (.inr (.inr (.inl ⟨rfl, hr⟩)))
    have hxn : xn = ⟨#[]⟩ := Classical.byContradiction fun hr => h5 (.inr (.inr (.inr ⟨rfl, hr⟩)))
    subst hxn hxb
    have h := hf rfl
    refine ⟨?_, ?_, ?_⟩
    · simp [hasT, hasA, hasB, hasN, glue, ByteArray.data_append, lt]
    · rw [h, ar2]
      simp [hasT, hasA, hasB, hasN, fillS, setS, ltB_reg hxt, ltB_reg hxa, bs_of]
    · simp [hasT, hasA, hasB, hasN, nxt, ltB_let hxt, ltB_let hxa, bs_of]
  · have hxt : xt = 0 := Classical.byContradiction fun hr => h5 (.inl ⟨rfl, hr⟩)
    have hxa : rgOk xa := Classical.byContradiction fun hr => h3 (.inr (.inl ⟨rfl, hr⟩))
    have hxb : xb = 0 := Classical.byContradiction fun hr => h5 (.inr (.inr (.inl ⟨rfl, hr⟩)))
    subst hxt hxb
    have h := hf rfl
    refine ⟨?_, ?_, ?_⟩
    · simp [hasT, hasA, hasB, hasN, glue, ByteArray.data_append, lt]
    · rw [h, ar3]
      simp [hasT, hasA, hasB, hasN, fillS, setS, ltB_reg hxa, bs_of]
    · simp [hasT, hasA, hasB, hasN, nxt, ltB_let hxa, bs_of]
/-- What the program takes a line for; and does it stand by it? -/
def spP (ln : List UInt8) : Stp := stpF (prt (Lib.trimSuffix ln [10])) 15
def okP (ln : List UInt8) : Prop := stE (spP ln) = 0 ∧ stS (spP ln) = bs ln
theorem ok_of {x : Stp} {ln : List UInt8} (h0 : stE x = 0) (h : stS x = bs ln) : ∃ u, ln = u ++ [10] ∧ (10 : UInt8) ∉ u ∧ stpF (prt u) 15 = x ∧ soS (prt u) = x := by
  obtain ⟨h1, h2, h3⟩ := stp_read h0
  have hno := wdO_no h0
  have hg : prt (glue (wdO x)) = wdO x := prt_glue (by unfold wdO; simp) fun w hw => (hno w hw).1
  refine ⟨glue (wdO x), ?_, glue_no (by decide) fun w hw => (hno w hw).2, by rw [hg]; exact h2, by rw [hg]; exact h3⟩
  rw [← h1, h, bs_list]
theorem okP_no {q : List UInt8} (h : (10 : UInt8) ∉ q) : ¬ okP q := fun hk => by
  obtain ⟨u, rfl, _⟩ := ok_of hk.1 hk.2
  exact h (by simp)
theorem okP_iff (u : List UInt8) : okP (u ++ [10]) ↔ (stE (soS (prt u)) = 0 ∧ stS (soS (prt u)) = bs (u ++ [10])) := by
  constructor
  · intro h
    obtain ⟨v, hv, _, _, h2⟩ := ok_of h.1 h.2
    obtain rfl : u = v := List.append_inj_left' hv rfl
    rw [h2]
    exact h
  · intro h
    obtain ⟨v, hv, _, h1, _⟩ := ok_of h.1 h.2
    obtain rfl : u = v := List.append_inj_left' hv rfl
    unfold okP spP
    rw [trim_at, h1]
    exact h
theorem okP_eq {u : List UInt8} (h : okP (u ++ [10])) : spP (u ++ [10]) = soS (prt u) := by
  obtain ⟨v, hv, _, _, h2⟩ := ok_of h.1 h.2
  obtain rfl : u = v := List.append_inj_left' hv rfl
  exact h2.symm
theorem ln_none : ∀ {q : List UInt8}, (10 : UInt8) ∉ q → ln1 q = q ∧ ln2 q = []
  | [], _ => ⟨rfl, rfl⟩
  | b :: q, h => by
    obtain ⟨h1, h2⟩ := ln_none (q := q) fun hm => h (List.mem_cons_of_mem _ hm)
    have hb : ¬ b = 10 := by
      rintro rfl
      exact h List.mem_cons_self
    unfold ln1 ln2
    rw [if_neg hb, if_neg hb, h1, h2]
    exact ⟨rfl, rfl⟩
theorem lns_tail {q : List UInt8} (hq : (10 : UInt8) ∉ q) (hne : q ≠ []) : ∀ {l : List (List UInt8)}, (∀ u ∈ l, (10 : UInt8) ∉ u) → lns (joinL 10 l ++ q) = l.map (· ++ [10]) ++ [q]
  | [], _ => by
    obtain ⟨h1, h2⟩ := ln_none hq
    rw [show joinL 10 ([] : List (List UInt8)) ++ q = q from rfl, lns_cons hne, h1, h2, lns_nil]
    rfl
  | u :: l, h => by
    have e : joinL 10 (u :: l) ++ q = u ++ 10 :: (joinL 10 l ++ q) := by simp [joinL]
    obtain ⟨h1, h2⟩ := ln_at (r := joinL 10 l ++ q) (h u List.mem_cons_self)
    rw [e, lns_cons (by simp), h1, h2, lns_tail hq hne fun v hv => h v (List.mem_cons_of_mem _ hv)]
    rfl
/-- The program's lines are the document's, with their line feeds; and what is left over. -/
theorem lns_pcs (t : List UInt8) : (frm 10 t t.length = t.length ∧ lns t = (pcs 10 t t.length).map (· ++ [10])) ∨ (frm 10 t t.length ≠ t.length ∧ ∃ q, (10 : UInt8) ∉ q ∧ lns t = (pcs 10 t t.length).map (· ++ [10]) ++ [q]) := by
  have hj := join_pcs (c := 10) (t := t) t.length (Nat.le_refl _)
  have hno := pcs_no (c := 10) (t := t) t.length
  have hle := frm_le 10 t t.length
  by_cases hf : frm 10 t t.length = t.length
  · refine .inl ⟨hf, ?_⟩
    rw [hf, List.take_length] at hj
    have := lns_join hno
    rw [hj] at this
    exact this
  · refine .inr ⟨hf, t.drop (frm 10 t t.length), fun hm => ?_, ?_⟩
    · obtain ⟨i, hi⟩ := List.getElem?_of_mem hm
      rw [List.getElem?_drop] at hi
      obtain ⟨hlt, _⟩ := List.getElem?_eq_some_iff.1 hi
      exact frm_no t.length _ (Nat.le_add_right _ _) hlt hi
    · have hm : (10 : UInt8) ∉ t.drop (frm 10 t t.length) := fun hm => by
        obtain ⟨i, hi⟩ := List.getElem?_of_mem hm
        rw [List.getElem?_drop] at hi
        obtain ⟨hlt, _⟩ := List.getElem?_eq_some_iff.1 hi
        exact frm_no t.length _ (Nat.le_add_right _ _) hlt hi
      have hne : t.drop (frm 10 t t.length) ≠ [] := fun h => by
        have := congrArg List.length h
        simp at this
        omega
      have := lns_tail hm hne hno
      rw [hj, List.take_append_drop] at this
      exact this
open Classical in
/-- The reading of a script's lines, from the ones on that have been read. -/
noncomputable def scn : List (List UInt8) → List Stp → List Stp × Int × Int
  | [], acc => (acc, 0, 0)
  | ln :: r, acc => if acc.length = 30 then ([], acc.length, 5) else if okP ln then scn r (acc ++ [spP ln]) else ([], acc.length, 3)
theorem scn_full {ln : List UInt8} {r : List (List UInt8)} {acc : List Stp} (h : acc.length = 30) : scn (ln :: r) acc = (([] : List Stp), (acc.length : Int), (5 : Int)) := by rw [scn, if_pos h]
theorem scn_no {ln : List UInt8} {r : List (List UInt8)} {acc : List Stp} (h : ¬ acc.length = 30) (hk : ¬ okP ln) : scn (ln :: r) acc = (([] : List Stp), (acc.length : Int), (3 : Int)) := by rw [scn, if_neg h, if_neg hk]
theorem scn_ok {ln : List UInt8} {r : List (List UInt8)} {acc : List Stp} (h : ¬ acc.length = 30) (hk : okP ln) : scn (ln :: r) acc = scn r (acc ++ [spP ln]) := by rw [scn, if_neg h, if_pos hk]
noncomputable def rdT (t : List UInt8) : List Stp × Int × Int := if 2000 < t.length then ([], 0, 1) else scn (lns t) []
end Go.Proofs.YtlgnjehfojogmaaDoor
namespace Go.Proofs.YtlgnjehfojogmaaDoor
open Go.RowKit
set_option linter.unusedSimpArgs false
set_option linter.unusedVariables false
set_option maxRecDepth 100000

def stpC (l : List Stp) : List V := l.flatMap fun x => [.i x.k, .i x.t, .i x.a, .i x.b, .s x.n]
def stRow (l : List Stp) (z : Bool) : Row := ⟨60, stpC l, z, 5⟩
@[simp] theorem stpC_len (l : List Stp) : (stpC l).length = l.length * 5 := by
 induction l with
 | nil => rfl
 | cons x l ih => simp only [stpC, List.flatMap_cons, List.length_append, List.length_cons, List.length_nil] at ih ⊢; omega
@[simp] theorem hasL_stpC (r : Nat) (l : List Stp) : V.hasL r (stpC l) = false := V.hasL_false.2 fun d hd => by
 obtain ⟨x, _, hx⟩ := List.mem_flatMap.1 hd
 simp only [List.mem_cons, List.not_mem_nil, or_false] at hx
 rcases hx with rfl | rfl | rfl | rfl | rfl <;> rfl
theorem bs_snoc (u : List UInt8) : bs (u ++ [10]) = bs u ++ (⟨#[10]⟩ : ByteArray) := bs_ext (by rw [bs_list]; simp [ByteArray.data_append, bs])
/-- A reader's answer. -/
def rdV (r : List Stp × Int × Int) : V := .tup [if r.2.2 = 0 then .d (stpsD r.1) else nlV, .i r.2.1, .i r.2.2]
set_option maxHeartbeats 2000000 in
theorem am_StepsRead (t : List UInt8) (R : List Stp × Int × Int) (hR : rdT t = R) : Fn Tryd.prog 10 [.s (bs t)] (fun v => v = rdV R) := by
 have hbs := bs_size t
 unfold rdV
 by_cases hbig : 2000 < t.length
 ·obtain rfl : R = ([], 0, 1) := by rw [← hR]; unfold rdT; rw [if_pos hbig]
  dsimp only
  rw [if_neg (by decide)]
  refine Fn.intro (n := 69) ⟨Tryd.func10, rfl, rfl, rfl, rfl⟩ (by simp [V.pure, V.has, V.hasL]) (by simp) fun w0 out => ?_
  refine AW.seq ?_
  refine AW.region ?_
  refine AL.rp rfl rfl (rp_assign rfl rfl) ?_
  refine AL.rp rfl rfl (rp_assign rfl rfl) ?_
  refine AL.rp rfl rfl (rp_assign rfl rfl) ?_
  refine AL.nil ?_
  try simp only [thenS, S.put, enum, List.nil_append, List.cons_append, List.append_nil, Nat.zero_add, Nat.reduceAdd]
  refine AW.seq ?_
  refine AW.seq ?_
  refine AW.region ?_
  refine AL.rp rfl rfl (rp_move rfl rfl) ?_
  (first | (refine AL.rp rfl rfl (rp_len_map Tryd.underlying9 rfl rfl (by assumption)) ?_) | (refine AL.rp rfl rfl (rp_len_own Tryd.underlying9 rfl rfl) ?_) | (refine AL.rp rfl rfl (rp_len_sl Tryd.underlying9 rfl rfl) ?_) | (refine AL.rp rfl rfl (rp_len_nil Tryd.underlying9 rfl rfl) ?_) | (refine AL.rp rfl rfl (rp_len_str Tryd.underlying9 rfl rfl) ?_))
  (first | (refine AL.rp rfl rfl (rp_gtrT rfl rfl rfl (by first | assumption | omega | (dsimp only; omega))) ?_) | (refine AL.rp rfl rfl (rp_gtrF rfl rfl rfl (by first | assumption | omega | (dsimp only; omega))) ?_) | (refine AL.rp rfl rfl (rp_gtr rfl rfl rfl) ?_))
  refine AL.nil ?_
  try simp only [thenS, S.put]
  refine AW.condT rfl ?_
  refine AW.seq ?_
  refine AW.region ?_
  refine AL.rp rfl rfl (rp_assign rfl rfl) ?_
  refine AL.rp rfl rfl (rp_assign rfl rfl) ?_
  refine AL.rp rfl rfl (rp_assign rfl rfl) ?_
  refine AL.nil ?_
  try simp only [thenS, S.put]
  refine AW.ret ?_
  exact ⟨[_, _, _], ⟨rfl, rfl, rfl, trivial⟩, rfl, by simp [tupOf, V.pure, V.has, V.hasL, nlV]⟩
 ·have hlines := am_RLines t (by omega)
  have hmem : ∀ x ∈ pcs 10 t t.length, x.length ≤ 2000 := fun x hx => by have := pcs_mem hx; omega
  have hpl := pcs_len 10 t t.length
  have hRs : scn (lns t) [] = R := by rw [← hR]; unfold rdT; rw [if_neg hbig]
  obtain ⟨wh, tl, hl, hw, hwt⟩ : ∃ (wh : Bool) (tl : List (List UInt8)), lns t = (pcs 10 t t.length).map (· ++ [10]) ++ tl ∧ decide (frm 10 t t.length = t.length) = wh ∧ ((wh = true ∧ tl = []) ∨ (wh = false ∧ ∃ q, (10 : UInt8) ∉ q ∧ tl = [q])) := by
   rcases lns_pcs t with ⟨h1, h2⟩ | ⟨h1, q, h2, h3⟩
   ·exact ⟨true, [], by rw [List.append_nil]; exact h2, decide_eq_true h1, .inl ⟨rfl, rfl⟩⟩
   ·exact ⟨false, [q], h3, decide_eq_false h1, .inr ⟨rfl, q, h2, rfl⟩⟩
  rw [hl] at hRs
  rw [hw] at hlines
  obtain ⟨L, hL⟩ : ∃ L, pcs 10 t t.length = L := ⟨_, rfl⟩
  rw [hL] at hlines hpl hmem hRs
  obtain ⟨n, hn⟩ : ∃ n, L.length = n := ⟨_, rfl⟩
  rw [hn] at hpl
  have hn' : (L.map fun b => [D.p (.string (bs b))]).length = n := by rw [List.length_map]; exact hn
  clear hw hL hl
  unfold strsD at hlines
  refine Fn.intro (n := 69) ⟨Tryd.func10, rfl, rfl, rfl, rfl⟩ (by simp [V.pure, V.has, V.hasL]) (by simp) fun w0 out => ?_
  refine AW.seq ?_
  refine AW.region ?_
  refine AL.rp rfl rfl (rp_assign rfl rfl) ?_
  refine AL.rp rfl rfl (rp_assign rfl rfl) ?_
  refine AL.rp rfl rfl (rp_assign rfl rfl) ?_
  refine AL.nil ?_
  try simp only [thenS, S.put, enum, List.nil_append, List.cons_append, List.append_nil, Nat.zero_add, Nat.reduceAdd]
  refine AW.seq ?_
  refine AW.seq ?_
  refine AW.region ?_
  refine AL.rp rfl rfl (rp_move rfl rfl) ?_
  (first | (refine AL.rp rfl rfl (rp_len_map Tryd.underlying9 rfl rfl (by assumption)) ?_) | (refine AL.rp rfl rfl (rp_len_own Tryd.underlying9 rfl rfl) ?_) | (refine AL.rp rfl rfl (rp_len_sl Tryd.underlying9 rfl rfl) ?_) | (refine AL.rp rfl rfl (rp_len_nil Tryd.underlying9 rfl rfl) ?_) | (refine AL.rp rfl rfl (rp_len_str Tryd.underlying9 rfl rfl) ?_))
  (first | (refine AL.rp rfl rfl (rp_gtrT rfl rfl rfl (by first | assumption | omega | (dsimp only; omega))) ?_) | (refine AL.rp rfl rfl (rp_gtrF rfl rfl rfl (by first | assumption | omega | (dsimp only; omega))) ?_) | (refine AL.rp rfl rfl (rp_gtr rfl rfl rfl) ?_))
  refine AL.nil ?_
  try simp only [thenS, S.put]
  refine AW.condF rfl ?_
  refine AW.skip ?_
  try simp only [thenS]
  refine AW.seq ?_
  refine AW.region ?_
  refine AL.rp rfl rfl (rp_move rfl rfl) ?_
  refine AL.call (post := ?pc0) rfl (sm_call (args := [_]) ?hc0 ⟨Tryd.func21, rfl, rfl, rfl, rfl⟩ rfl rfl rfl rfl) ?_
  case hc0 => exact hlines
  rintro _ rfl -
  try dsimp only
  refine AL.rp rfl rfl (rp_move rfl rfl) ?_
  refine AL.rp rfl rfl (rp_extract rfl rfl rfl) ?_
  refine AL.rp rfl rfl (rp_extract rfl rfl rfl) ?_
  refine AL.rp rfl rfl (rp_assign rfl rfl) ?_
  refine AL.rp rfl rfl (rp_assign rfl rfl) ?_
  refine AL.nil ?_
  try simp only [thenS, S.put, S.newObj, setL, V.cs, List.length_cons, List.length_nil, List.take_succ_cons, List.take_zero, List.drop_succ_cons, List.drop_zero, List.drop_nil, List.nil_append, List.cons_append, List.append_nil, Nat.zero_add, Nat.reduceAdd, List.map_cons, List.map_nil, List.set_cons_zero, List.set_cons_succ]
  refine AW.seq ?_
  refine AW.region ?_
  refine AL.rp rfl rfl (rp_assign rfl rfl) ?_
  refine AL.nil ?_
  try simp only [thenS, S.put]
  refine AW.seq ?_
  refine AW.seq ?_
  refine AW.region ?_
  refine AL.rp rfl rfl (rp_assign rfl rfl) ?_
  refine AL.nil ?_
  try simp only [thenS, S.put]
  refine AW.block ?_
  refine AW.adopt 7 793 5 60 rfl (by simp [S.clean, V.has, V.hasL]) ?_
  refine AW.loop (fun s' => ∃ (i : Nat) (acc : List Stp) (z : Bool), i ≤ n ∧ i ≤ 30 ∧ acc.length = i ∧ z = acc.isEmpty ∧ scn ((L.drop i).map (· ++ [10]) ++ tl) acc = R ∧ s' = ⟨69, [(5, .d (strsD L)), (6, .b wh), (7, .own 793 5 i z), (8, .i i)], [(793, stRow acc z)], []⟩) (fun s' => n - s'.nat 8) ⟨_, ?_, 0, [], true, by omega, by omega, rfl, rfl, hRs, rfl⟩ ?_
  ·exact (Less.of rfl (by repeat (first | exact trivial | refine ⟨⟨_, rfl, Wk.refl _⟩, ?_⟩ | refine ⟨⟨_, rfl, Wk.nil _ _⟩, ?_⟩ | refine ⟨⟨_, rfl, Wk.junk _⟩, ?_⟩)) (by repeat (first | exact trivial | refine ⟨rfl, ?_⟩)) rfl)
  rintro s' ⟨i, acc, z, hi, h30, hacc, hz, hS, rfl⟩
  by_cases hlt : i < n
  ·obtain ⟨u, hu⟩ := get_lt hn hlt
   have hul := hmem u (List.mem_of_getElem? hu)
   have hdr : L.drop i = u :: L.drop (i + 1) := by
    obtain ⟨h1, h2⟩ := List.getElem?_eq_some_iff.1 hu
    rw [← h2]
    exact List.drop_eq_getElem_cons h1
   rw [hdr, List.map_cons, List.cons_append] at hS
   by_cases hf : i = 30
   ·rw [scn_full (by omega)] at hS
    subst hS
    rw [hacc]
    dsimp only
    rw [if_neg (by decide)]
    refine AW.seq ?_
    refine AW.seq ?_
    refine AW.region ?_
    refine AL.rp rfl rfl (rp_move rfl rfl) ?_
    refine AL.rp rfl rfl (rp_move rfl rfl) ?_
    (first | (refine AL.rp rfl rfl (rp_len_map Tryd.underlying53 rfl rfl (by assumption)) ?_) | (refine AL.rp rfl rfl (rp_len_own Tryd.underlying53 rfl rfl) ?_) | (refine AL.rp rfl rfl (rp_len_sl Tryd.underlying53 rfl rfl) ?_) | (refine AL.rp rfl rfl (rp_len_nil Tryd.underlying53 rfl rfl) ?_) | (refine AL.rp rfl rfl (rp_len_str Tryd.underlying53 rfl rfl) ?_))
    (first | (refine AL.rp rfl rfl (rp_lssT rfl rfl rfl (by first | assumption | omega | (dsimp only; omega))) ?_) | (refine AL.rp rfl rfl (rp_lssF rfl rfl rfl (by first | assumption | omega | (dsimp only; omega))) ?_) | (refine AL.rp rfl rfl (rp_lss rfl rfl rfl) ?_))
    refine AL.nil ?_
    try simp only [thenS, S.put]
    refine AW.condT rfl ?_
    refine AW.skip ?_
    try simp only [thenS]
    refine AW.seq ?_
    refine AW.block ?_
    refine AW.seq ?_
    refine AW.seq ?_
    refine AW.region ?_
    refine AL.rp rfl rfl (rp_move rfl rfl) ?_
    (first | (refine AL.rp rfl rfl (rp_eqlT rfl rfl rfl (by first | assumption | omega | (dsimp only; omega))) ?_) | (refine AL.rp rfl rfl (rp_eqlF rfl rfl rfl (by first | assumption | omega | (dsimp only; omega))) ?_) | (refine AL.rp rfl rfl (rp_eql rfl rfl rfl) ?_))
    refine AL.nil ?_
    try simp only [thenS, S.put]
    refine AW.condT rfl ?_
    refine AW.seq ?_
    refine AW.region ?_
    refine AL.rp rfl rfl (rp_move rfl rfl) ?_
    refine AL.rp rfl rfl (rp_assign rfl rfl) ?_
    refine AL.rp rfl rfl (rp_assign rfl rfl) ?_
    refine AL.rp rfl rfl (rp_assign rfl rfl) ?_
    refine AL.nil ?_
    try simp only [thenS, S.put]
    refine AW.ret ?_
    exact ⟨[_, _, _], ⟨rfl, rfl, rfl, trivial⟩, rfl, by simp [tupOf, V.pure, V.has, V.hasL, nlV]⟩
   ·have hso := am_stepOf u (by omega)
    have hsh := am_StepShown (soS (prt u))
    have hiff := okP_iff u
    have heq := okP_eq (u := u)
    have hbu := bs_size u
    have hs10 : (⟨#[10]⟩ : ByteArray).size = 1 := rfl
    rw [bs_snoc] at hiff
    obtain ⟨⟨sk, st, sa, sb, sn⟩, hst⟩ : ∃ x, soS (prt u) = x := ⟨_, rfl⟩
    rw [hst] at hso hsh hiff heq
    obtain ⟨S1, hS1⟩ : ∃ x, stS ⟨sk, st, sa, sb, sn⟩ = x := ⟨_, rfl⟩
    obtain ⟨E1, hE1⟩ : ∃ x, stE ⟨sk, st, sa, sb, sn⟩ = x := ⟨_, rfl⟩
    rw [hS1, hE1] at hsh hiff
    simp only [stpD, List.map_cons, List.map_nil] at hso hsh
    clear hst hS1 hE1
    by_cases hok : okP (u ++ [10])
    ·obtain ⟨rfl, rfl⟩ := hiff.1 hok
     rw [scn_ok (by omega) hok, heq hok] at hS
     clear hiff heq
     have hrr : bs u ++ (⟨#[10]⟩ : ByteArray) = bs u ++ (⟨#[10]⟩ : ByteArray) := rfl
     unfold stRow
     subst hacc
     refine AW.seq ?_
     refine AW.seq ?_
     refine AW.region ?_
     refine AL.rp rfl rfl (rp_move rfl rfl) ?_
     refine AL.rp rfl rfl (rp_move rfl rfl) ?_
     (first | (refine AL.rp rfl rfl (rp_len_map Tryd.underlying53 rfl rfl (by assumption)) ?_) | (refine AL.rp rfl rfl (rp_len_own Tryd.underlying53 rfl rfl) ?_) | (refine AL.rp rfl rfl (rp_len_sl Tryd.underlying53 rfl rfl) ?_) | (refine AL.rp rfl rfl (rp_len_nil Tryd.underlying53 rfl rfl) ?_) | (refine AL.rp rfl rfl (rp_len_str Tryd.underlying53 rfl rfl) ?_))
     (first | (refine AL.rp rfl rfl (rp_lssT rfl rfl rfl (by first | assumption | omega | (dsimp only; omega))) ?_) | (refine AL.rp rfl rfl (rp_lssF rfl rfl rfl (by first | assumption | omega | (dsimp only; omega))) ?_) | (refine AL.rp rfl rfl (rp_lss rfl rfl rfl) ?_))
     refine AL.nil ?_
     try simp only [thenS, S.put]
     refine AW.condT rfl ?_
     refine AW.skip ?_
     try simp only [thenS]
     refine AW.seq ?_
     refine AW.block ?_
     refine AW.seq ?_
     refine AW.seq ?_
     refine AW.region ?_
     refine AL.rp rfl rfl (rp_move rfl rfl) ?_
     (first | (refine AL.rp rfl rfl (rp_eqlT rfl rfl rfl (by first | assumption | omega | (dsimp only; omega))) ?_) | (refine AL.rp rfl rfl (rp_eqlF rfl rfl rfl (by first | assumption | omega | (dsimp only; omega))) ?_) | (refine AL.rp rfl rfl (rp_eql rfl rfl rfl) ?_))
     refine AL.nil ?_
     try simp only [thenS, S.put]
     refine AW.condF rfl ?_
     refine AW.skip ?_
     try simp only [thenS]
     refine AW.seq ?_
     refine AW.region ?_
     refine AL.rp rfl rfl (rp_move rfl rfl) ?_
     refine AL.rp rfl rfl (rp_move rfl rfl) ?_
     (first | (refine AL.rp rfl rfl (rp_index_own (k := acc.length) Tryd.underlying53 inf9 rfl rfl rfl (by omega) (by omega)) ?_) | (refine AL.rp rfl rfl (rp_index_map (k := acc.length) Tryd.underlying53 inf9 rfl rfl rfl (by omega) (by assumption)) ?_))
     (first | (refine AL.rd rfl rfl (rd_load_ref Tryd.underlying9 rfl rfl rfl rfl rfl rfl) ?_) | (refine AL.rd rfl rfl (rd_load_ad Tryd.underlying9 rfl rfl rfl rfl) ?_) | (refine AL.rd rfl rfl (rd_load_map Tryd.underlying9 rfl rfl rfl rfl rfl rfl (by assumption)) ?_) | (refine AL.rd rfl rfl (rd_load_flat Tryd.underlying9 rfl rfl rfl rfl rfl rfl (fun _ => rfl) (by assumption) rfl) ?_))
     refine AL.call (post := ?pc1) rfl (sm_call (args := [_]) ?hc1 ⟨Tryd.func27, rfl, rfl, rfl, rfl⟩ rfl rfl rfl rfl) ?_
     case hc1 => exact hso
     rintro _ rfl -
     try dsimp only
     refine AL.sm rfl (sm_alloc (l := [.d (.p (.int .i64 0)), .d (.p (.int .i64 0)), .d (.p (.int .i64 0)), .d (.p (.int .i64 0)), .d (.p (.string ⟨#[]⟩))]) 9 inf60 rfl (by first | rfl | simp [S.clean, S.put, S.newObj, S.forget, V.has, V.hasL, junkIf, setL, V.cs, hasL_i, hasL_d, hasL_b, hasL_s, hasL_n, hasL_rep, hasL_flat, hasL_append, -List.map_set]) rfl rfl) ?_
     refine AL.st rfl (st_store_any inf60 rfl rfl rfl rfl rfl rfl rfl rfl (by first | decide | (simp; done) | (simp; omega)) rfl) ?_
     refine AL.nil ?_
     try simp only [thenS, S.put, S.newObj, setL, V.cs, List.length_cons, List.length_nil, List.take_succ_cons, List.take_zero, List.drop_succ_cons, List.drop_zero, List.drop_nil, List.nil_append, List.cons_append, List.append_nil, Nat.zero_add, Nat.reduceAdd, List.map_cons, List.map_nil, List.set_cons_zero, List.set_cons_succ]
     refine AW.seq ?_
     refine AW.region ?_
     (first | (refine AL.rd rfl rfl (rd_loads_ref Tryd.underlying60 rfl inf60 rfl rfl rfl rfl rfl rfl) ?_) | (refine AL.rd rfl rfl (rd_loads_ad Tryd.underlying60 rfl inf60 rfl rfl rfl rfl) ?_))
     refine AL.call (post := ?pc2) rfl (sm_call (args := [_]) ?hc2 ⟨Tryd.func28, rfl, rfl, rfl, rfl⟩ rfl rfl rfl rfl) ?_
     case hc2 => exact hsh
     rintro _ rfl -
     try dsimp only
     refine AL.rp rfl rfl (rp_move rfl rfl) ?_
     refine AL.rp rfl rfl (rp_extract rfl rfl rfl) ?_
     refine AL.rp rfl rfl (rp_extract rfl rfl rfl) ?_
     refine AL.rp rfl rfl (rp_assign rfl rfl) ?_
     refine AL.rp rfl rfl (rp_assign rfl rfl) ?_
     refine AL.nil ?_
     try simp only [thenS, S.put, S.newObj, setL, V.cs, List.length_cons, List.length_nil, List.take_succ_cons, List.take_zero, List.drop_succ_cons, List.drop_zero, List.drop_nil, List.nil_append, List.cons_append, List.append_nil, Nat.zero_add, Nat.reduceAdd, List.map_cons, List.map_nil, List.set_cons_zero, List.set_cons_succ]
     refine AW.seq ?_
     refine AW.seq ?_
     refine AW.region ?_
     refine AL.rp rfl rfl (rp_move rfl rfl) ?_
     (first | (refine AL.rp rfl rfl (rp_neqT rfl rfl rfl (by first | assumption | omega | (dsimp only; omega))) ?_) | (refine AL.rp rfl rfl (rp_neqF rfl rfl rfl (by first | assumption | omega | (dsimp only; omega))) ?_) | (refine AL.rp rfl rfl (rp_neq rfl rfl rfl) ?_))
     refine AL.rp rfl rfl (rp_move rfl rfl) ?_
     (first | (refine AL.noV rfl rfl rfl rfl ?_) | (refine AL.noU rfl ⟨_, rfl, rfl⟩ rfl ?_) | (refine AL.rpy rfl rfl rfl (rp_move rfl rfl) ?_))
     (first | (refine AL.noV rfl rfl rfl rfl ?_) | (refine AL.noU rfl ⟨_, rfl, rfl⟩ rfl ?_) | (refine AL.rpy rfl rfl rfl (rp_move rfl rfl) ?_))
     (first | (refine AL.noV rfl rfl rfl rfl ?_) | (refine AL.noU rfl ⟨_, rfl, rfl⟩ rfl ?_) | (refine AL.rpy rfl rfl rfl (rp_move rfl rfl) ?_))
     (first | (refine AL.noV rfl rfl rfl rfl ?_) | (refine AL.noU rfl ⟨_, rfl, rfl⟩ rfl ?_) | (refine AL.rpy rfl rfl rfl (rp_index_own (k := acc.length) Tryd.underlying53 inf9 rfl rfl rfl (by omega) (by omega)) ?_) | (refine AL.rpy rfl rfl rfl (rp_index_map (k := acc.length) Tryd.underlying53 inf9 rfl rfl rfl (by omega) (by assumption)) ?_))
     (first | (refine AL.noV rfl rfl rfl rfl ?_) | (refine AL.noU rfl ⟨_, rfl, rfl⟩ rfl ?_) | (refine AL.rdy rfl rfl rfl (rd_load_ref Tryd.underlying9 rfl rfl rfl rfl rfl rfl) ?_) | (refine AL.rdy rfl rfl rfl (rd_load_ad Tryd.underlying9 rfl rfl rfl rfl) ?_) | (refine AL.rdy rfl rfl rfl (rd_load_map Tryd.underlying9 rfl rfl rfl rfl rfl rfl (by assumption)) ?_) | (refine AL.rdy rfl rfl rfl (rd_load_flat Tryd.underlying9 rfl rfl rfl rfl rfl rfl (fun _ => rfl) (by assumption) rfl) ?_))
     (first | (refine AL.noV rfl rfl rfl rfl ?_) | (refine AL.noU rfl ⟨_, rfl, rfl⟩ rfl ?_) | (refine AL.rpy rfl rfl rfl (rp_adds rfl rfl rfl (by first | assumption | omega | (simp only [ByteArray.size_append]; omega))) ?_))
     (first | (refine AL.noV rfl rfl rfl rfl ?_) | (refine AL.noU rfl ⟨_, rfl, rfl⟩ rfl ?_) | (refine AL.rpy rfl rfl rfl (rp_neqsF rfl rfl rfl (by assumption)) ?_) | (refine AL.rpy rfl rfl rfl (rp_neqsT rfl rfl rfl (by assumption)) ?_) | (refine AL.rpy rfl rfl rfl (rp_neqs rfl rfl rfl) ?_))
     refine AL.rp rfl rfl (rp_pick rfl rfl rfl) ?_
     refine AL.nil ?_
     try simp only [thenS, S.put]
     refine AW.condF rfl ?_
     refine AW.skip ?_
     try simp only [thenS]
     refine AW.region ?_
     refine AL.rp rfl rfl (rp_move rfl rfl) ?_
     (first | (refine AL.rd rfl rfl (rd_loads_ref Tryd.underlying60 rfl inf60 rfl rfl rfl rfl rfl rfl) ?_) | (refine AL.rd rfl rfl (rd_loads_ad Tryd.underlying60 rfl inf60 rfl rfl rfl rfl) ?_))
     refine AL.sm rfl (sm_slice (vs := [(0, _)]) (zs := [.d (.p (.int .i64 0)), .d (.p (.int .i64 0)), .d (.p (.int .i64 0)), .d (.p (.int .i64 0)), .d (.p (.string ⟨#[]⟩))]) 53 Tryd.underlying28 inf60 rfl rfl (by decide) (by decide) (by decide) rfl rfl rfl rfl (by first | rfl | simp [S.clean, S.put, S.newObj, S.forget, V.has, V.hasL, junkIf, setL, V.cs, hasL_i, hasL_d, hasL_b, hasL_s, hasL_n, hasL_rep, hasL_flat, hasL_append, -List.map_set]) (by first | rfl | simp [S.clean, S.put, S.newObj, S.forget, V.has, V.hasL, junkIf, setL, V.cs, hasL_i, hasL_d, hasL_b, hasL_s, hasL_n, hasL_rep, hasL_flat, hasL_append, -List.map_set]) rfl) ?_
     refine AL.st rfl (st_appendF Tryd.underlying28 inf60 rfl (by decide) rfl rfl rfl rfl rfl rfl (by first | assumption | rfl | (simp; done)) (by first | rfl | simp [S.clean, S.put, S.newObj, S.forget, V.has, V.hasL, junkIf, setL, V.cs, hasL_i, hasL_d, hasL_b, hasL_s, hasL_n, hasL_rep, hasL_flat, hasL_append, -List.map_set]) rfl rfl rfl rfl rfl (by first | rfl | simp [S.clean, S.put, S.newObj, S.forget, V.has, V.hasL, junkIf, setL, V.cs, hasL_i, hasL_d, hasL_b, hasL_s, hasL_n, hasL_rep, hasL_flat, hasL_append, -List.map_set]) rfl (by decide) (by omega) (by omega) rfl) ?_
     simp only [S.forget, S.put, S.newObj, junkIf, V.has, V.hasL, hasL_i, hasL_b, hasL_s, hasL_d, hasL_n, hasL_rep, hasL_flat, hasL_append, List.map_cons, List.map_nil, List.filter_cons, List.filter_nil, Nat.reduceBNe, Nat.reduceBEq, eq_self, bne_self_eq_false,  Bool.not_true, Bool.not_false, Bool.or_false, Bool.or_true, Bool.false_or, Bool.true_or, if_true, if_false, Bool.false_eq_true, ite_true, ite_false, ↓reduceIte, beq_self_eq_true, Nat.reduceEqDiff]
     refine AL.rp rfl rfl (rp_assign rfl rfl) ?_
     refine AL.nil ?_
     try simp only [thenS, S.put, S.newObj, setL, V.cs, List.length_cons, List.length_nil, List.take_succ_cons, List.take_zero, List.drop_succ_cons, List.drop_zero, List.drop_nil, List.nil_append, List.cons_append, List.append_nil, Nat.zero_add, Nat.reduceAdd, List.map_cons, List.map_nil, List.set_cons_zero, List.set_cons_succ]
     refine AW.region ?_
     refine AL.rp rfl rfl (rp_move rfl rfl) ?_
     refine AL.rp rfl rfl (rp_add rfl rfl rfl (by first | omega | (dsimp only; omega))) ?_
     refine AL.rp rfl rfl (rp_assign rfl rfl) ?_
     refine AL.nil ?_
     try simp only [thenS, S.put]
     refine ⟨⟨69, [(5, .d (strsD L)), (6, .b wh), (7, .own 793 5 (acc.length + 1) false), (8, .i (acc.length + 1 : Nat))], [(793, ⟨60, stpC acc ++ [.i sk, .i st, .i sa, .i sb, .s sn], false, 5⟩)], []⟩, (Less.of rfl (by repeat (first | exact trivial | refine ⟨⟨_, rfl, Wk.refl _⟩, ?_⟩ | refine ⟨⟨_, rfl, Wk.nil _ _⟩, ?_⟩ | refine ⟨⟨_, rfl, Wk.junk _⟩, ?_⟩)) (by repeat (first | exact trivial | refine ⟨rfl, ?_⟩)) rfl), ⟨acc.length + 1, acc ++ [⟨sk, st, sa, sb, sn⟩], false, by omega, by omega, by simp, by simp, hS, ?_⟩, ?_⟩
     ·simp [stRow, stpC]
     ·simp [S.nat, fnd]; omega
    ·rw [scn_no (by omega) hok] at hS
     subst hS
     rw [hacc]
     dsimp only
     rw [if_neg (by decide)]
     unfold stRow
     by_cases hE : E1 = 0
     ·have hne : S1 ≠ bs u ++ (⟨#[10]⟩ : ByteArray) := fun h => hok (hiff.2 ⟨hE, h⟩)
      subst hE
      have hne' : S1.data.toList ≠ (bs u ++ (⟨#[10]⟩ : ByteArray)).data.toList := fun h => hne (bs_ext h)
      refine AW.seq ?_
      refine AW.seq ?_
      refine AW.region ?_
      refine AL.rp rfl rfl (rp_move rfl rfl) ?_
      refine AL.rp rfl rfl (rp_move rfl rfl) ?_
      (first | (refine AL.rp rfl rfl (rp_len_map Tryd.underlying53 rfl rfl (by assumption)) ?_) | (refine AL.rp rfl rfl (rp_len_own Tryd.underlying53 rfl rfl) ?_) | (refine AL.rp rfl rfl (rp_len_sl Tryd.underlying53 rfl rfl) ?_) | (refine AL.rp rfl rfl (rp_len_nil Tryd.underlying53 rfl rfl) ?_) | (refine AL.rp rfl rfl (rp_len_str Tryd.underlying53 rfl rfl) ?_))
      (first | (refine AL.rp rfl rfl (rp_lssT rfl rfl rfl (by first | assumption | omega | (dsimp only; omega))) ?_) | (refine AL.rp rfl rfl (rp_lssF rfl rfl rfl (by first | assumption | omega | (dsimp only; omega))) ?_) | (refine AL.rp rfl rfl (rp_lss rfl rfl rfl) ?_))
      refine AL.nil ?_
      try simp only [thenS, S.put]
      refine AW.condT rfl ?_
      refine AW.skip ?_
      try simp only [thenS]
      refine AW.seq ?_
      refine AW.block ?_
      refine AW.seq ?_
      refine AW.seq ?_
      refine AW.region ?_
      refine AL.rp rfl rfl (rp_move rfl rfl) ?_
      (first | (refine AL.rp rfl rfl (rp_eqlT rfl rfl rfl (by first | assumption | omega | (dsimp only; omega))) ?_) | (refine AL.rp rfl rfl (rp_eqlF rfl rfl rfl (by first | assumption | omega | (dsimp only; omega))) ?_) | (refine AL.rp rfl rfl (rp_eql rfl rfl rfl) ?_))
      refine AL.nil ?_
      try simp only [thenS, S.put]
      refine AW.condF rfl ?_
      refine AW.skip ?_
      try simp only [thenS]
      refine AW.seq ?_
      refine AW.region ?_
      refine AL.rp rfl rfl (rp_move rfl rfl) ?_
      refine AL.rp rfl rfl (rp_move rfl rfl) ?_
      (first | (refine AL.rp rfl rfl (rp_index_own (k := i) Tryd.underlying53 inf9 rfl rfl rfl (by omega) (by omega)) ?_) | (refine AL.rp rfl rfl (rp_index_map (k := i) Tryd.underlying53 inf9 rfl rfl rfl (by omega) (by assumption)) ?_))
      (first | (refine AL.rd rfl rfl (rd_load_ref Tryd.underlying9 rfl rfl rfl rfl rfl rfl) ?_) | (refine AL.rd rfl rfl (rd_load_ad Tryd.underlying9 rfl rfl rfl rfl) ?_) | (refine AL.rd rfl rfl (rd_load_map Tryd.underlying9 rfl rfl rfl rfl rfl rfl (by assumption)) ?_) | (refine AL.rd rfl rfl (rd_load_flat Tryd.underlying9 rfl rfl rfl rfl rfl rfl (fun _ => rfl) (by assumption) rfl) ?_))
      refine AL.call (post := ?pc3) rfl (sm_call (args := [_]) ?hc3 ⟨Tryd.func27, rfl, rfl, rfl, rfl⟩ rfl rfl rfl rfl) ?_
      case hc3 => exact hso
      rintro _ rfl -
      try dsimp only
      refine AL.sm rfl (sm_alloc (l := [.d (.p (.int .i64 0)), .d (.p (.int .i64 0)), .d (.p (.int .i64 0)), .d (.p (.int .i64 0)), .d (.p (.string ⟨#[]⟩))]) 9 inf60 rfl (by first | rfl | simp [S.clean, S.put, S.newObj, S.forget, V.has, V.hasL, junkIf, setL, V.cs, hasL_i, hasL_d, hasL_b, hasL_s, hasL_n, hasL_rep, hasL_flat, hasL_append, -List.map_set]) rfl rfl) ?_
      refine AL.st rfl (st_store_any inf60 rfl rfl rfl rfl rfl rfl rfl rfl (by first | decide | (simp; done) | (simp; omega)) rfl) ?_
      refine AL.nil ?_
      try simp only [thenS, S.put, S.newObj, setL, V.cs, List.length_cons, List.length_nil, List.take_succ_cons, List.take_zero, List.drop_succ_cons, List.drop_zero, List.drop_nil, List.nil_append, List.cons_append, List.append_nil, Nat.zero_add, Nat.reduceAdd, List.map_cons, List.map_nil, List.set_cons_zero, List.set_cons_succ]
      refine AW.seq ?_
      refine AW.region ?_
      (first | (refine AL.rd rfl rfl (rd_loads_ref Tryd.underlying60 rfl inf60 rfl rfl rfl rfl rfl rfl) ?_) | (refine AL.rd rfl rfl (rd_loads_ad Tryd.underlying60 rfl inf60 rfl rfl rfl rfl) ?_))
      refine AL.call (post := ?pc4) rfl (sm_call (args := [_]) ?hc4 ⟨Tryd.func28, rfl, rfl, rfl, rfl⟩ rfl rfl rfl rfl) ?_
      case hc4 => exact hsh
      rintro _ rfl -
      try dsimp only
      refine AL.rp rfl rfl (rp_move rfl rfl) ?_
      refine AL.rp rfl rfl (rp_extract rfl rfl rfl) ?_
      refine AL.rp rfl rfl (rp_extract rfl rfl rfl) ?_
      refine AL.rp rfl rfl (rp_assign rfl rfl) ?_
      refine AL.rp rfl rfl (rp_assign rfl rfl) ?_
      refine AL.nil ?_
      try simp only [thenS, S.put, S.newObj, setL, V.cs, List.length_cons, List.length_nil, List.take_succ_cons, List.take_zero, List.drop_succ_cons, List.drop_zero, List.drop_nil, List.nil_append, List.cons_append, List.append_nil, Nat.zero_add, Nat.reduceAdd, List.map_cons, List.map_nil, List.set_cons_zero, List.set_cons_succ]
      refine AW.seq ?_
      refine AW.seq ?_
      refine AW.region ?_
      refine AL.rp rfl rfl (rp_move rfl rfl) ?_
      (first | (refine AL.rp rfl rfl (rp_neqT rfl rfl rfl (by first | assumption | omega | (dsimp only; omega))) ?_) | (refine AL.rp rfl rfl (rp_neqF rfl rfl rfl (by first | assumption | omega | (dsimp only; omega))) ?_) | (refine AL.rp rfl rfl (rp_neq rfl rfl rfl) ?_))
      refine AL.rp rfl rfl (rp_move rfl rfl) ?_
      (first | (refine AL.noV rfl rfl rfl rfl ?_) | (refine AL.noU rfl ⟨_, rfl, rfl⟩ rfl ?_) | (refine AL.rpy rfl rfl rfl (rp_move rfl rfl) ?_))
      (first | (refine AL.noV rfl rfl rfl rfl ?_) | (refine AL.noU rfl ⟨_, rfl, rfl⟩ rfl ?_) | (refine AL.rpy rfl rfl rfl (rp_move rfl rfl) ?_))
      (first | (refine AL.noV rfl rfl rfl rfl ?_) | (refine AL.noU rfl ⟨_, rfl, rfl⟩ rfl ?_) | (refine AL.rpy rfl rfl rfl (rp_move rfl rfl) ?_))
      (first | (refine AL.noV rfl rfl rfl rfl ?_) | (refine AL.noU rfl ⟨_, rfl, rfl⟩ rfl ?_) | (refine AL.rpy rfl rfl rfl (rp_index_own (k := i) Tryd.underlying53 inf9 rfl rfl rfl (by omega) (by omega)) ?_) | (refine AL.rpy rfl rfl rfl (rp_index_map (k := i) Tryd.underlying53 inf9 rfl rfl rfl (by omega) (by assumption)) ?_))
      (first | (refine AL.noV rfl rfl rfl rfl ?_) | (refine AL.noU rfl ⟨_, rfl, rfl⟩ rfl ?_) | (refine AL.rdy rfl rfl rfl (rd_load_ref Tryd.underlying9 rfl rfl rfl rfl rfl rfl) ?_) | (refine AL.rdy rfl rfl rfl (rd_load_ad Tryd.underlying9 rfl rfl rfl rfl) ?_) | (refine AL.rdy rfl rfl rfl (rd_load_map Tryd.underlying9 rfl rfl rfl rfl rfl rfl (by assumption)) ?_) | (refine AL.rdy rfl rfl rfl (rd_load_flat Tryd.underlying9 rfl rfl rfl rfl rfl rfl (fun _ => rfl) (by assumption) rfl) ?_))
      (first | (refine AL.noV rfl rfl rfl rfl ?_) | (refine AL.noU rfl ⟨_, rfl, rfl⟩ rfl ?_) | (refine AL.rpy rfl rfl rfl (rp_adds rfl rfl rfl (by first | assumption | omega | (simp only [ByteArray.size_append]; omega))) ?_))
      (first | (refine AL.noV rfl rfl rfl rfl ?_) | (refine AL.noU rfl ⟨_, rfl, rfl⟩ rfl ?_) | (refine AL.rpy rfl rfl rfl (rp_neqsF rfl rfl rfl (by assumption)) ?_) | (refine AL.rpy rfl rfl rfl (rp_neqsT rfl rfl rfl (by assumption)) ?_) | (refine AL.rpy rfl rfl rfl (rp_neqs rfl rfl rfl) ?_))
      refine AL.rp rfl rfl (rp_pick rfl rfl rfl) ?_
      refine AL.nil ?_
      try simp only [thenS, S.put]
      refine AW.condT rfl ?_
      refine AW.seq ?_
      refine AW.region ?_
      refine AL.rp rfl rfl (rp_move rfl rfl) ?_
      refine AL.rp rfl rfl (rp_assign rfl rfl) ?_
      refine AL.rp rfl rfl (rp_assign rfl rfl) ?_
      refine AL.rp rfl rfl (rp_assign rfl rfl) ?_
      refine AL.nil ?_
      try simp only [thenS, S.put]
      refine AW.ret ?_
      exact ⟨[_, _, _], ⟨rfl, rfl, rfl, trivial⟩, rfl, by simp [tupOf, V.pure, V.has, V.hasL, nlV]⟩
     ·skip
      refine AW.seq ?_
      refine AW.seq ?_
      refine AW.region ?_
      refine AL.rp rfl rfl (rp_move rfl rfl) ?_
      refine AL.rp rfl rfl (rp_move rfl rfl) ?_
      (first | (refine AL.rp rfl rfl (rp_len_map Tryd.underlying53 rfl rfl (by assumption)) ?_) | (refine AL.rp rfl rfl (rp_len_own Tryd.underlying53 rfl rfl) ?_) | (refine AL.rp rfl rfl (rp_len_sl Tryd.underlying53 rfl rfl) ?_) | (refine AL.rp rfl rfl (rp_len_nil Tryd.underlying53 rfl rfl) ?_) | (refine AL.rp rfl rfl (rp_len_str Tryd.underlying53 rfl rfl) ?_))
      (first | (refine AL.rp rfl rfl (rp_lssT rfl rfl rfl (by first | assumption | omega | (dsimp only; omega))) ?_) | (refine AL.rp rfl rfl (rp_lssF rfl rfl rfl (by first | assumption | omega | (dsimp only; omega))) ?_) | (refine AL.rp rfl rfl (rp_lss rfl rfl rfl) ?_))
      refine AL.nil ?_
      try simp only [thenS, S.put]
      refine AW.condT rfl ?_
      refine AW.skip ?_
      try simp only [thenS]
      refine AW.seq ?_
      refine AW.block ?_
      refine AW.seq ?_
      refine AW.seq ?_
      refine AW.region ?_
      refine AL.rp rfl rfl (rp_move rfl rfl) ?_
      (first | (refine AL.rp rfl rfl (rp_eqlT rfl rfl rfl (by first | assumption | omega | (dsimp only; omega))) ?_) | (refine AL.rp rfl rfl (rp_eqlF rfl rfl rfl (by first | assumption | omega | (dsimp only; omega))) ?_) | (refine AL.rp rfl rfl (rp_eql rfl rfl rfl) ?_))
      refine AL.nil ?_
      try simp only [thenS, S.put]
      refine AW.condF rfl ?_
      refine AW.skip ?_
      try simp only [thenS]
      refine AW.seq ?_
      refine AW.region ?_
      refine AL.rp rfl rfl (rp_move rfl rfl) ?_
      refine AL.rp rfl rfl (rp_move rfl rfl) ?_
      (first | (refine AL.rp rfl rfl (rp_index_own (k := i) Tryd.underlying53 inf9 rfl rfl rfl (by omega) (by omega)) ?_) | (refine AL.rp rfl rfl (rp_index_map (k := i) Tryd.underlying53 inf9 rfl rfl rfl (by omega) (by assumption)) ?_))
      (first | (refine AL.rd rfl rfl (rd_load_ref Tryd.underlying9 rfl rfl rfl rfl rfl rfl) ?_) | (refine AL.rd rfl rfl (rd_load_ad Tryd.underlying9 rfl rfl rfl rfl) ?_) | (refine AL.rd rfl rfl (rd_load_map Tryd.underlying9 rfl rfl rfl rfl rfl rfl (by assumption)) ?_) | (refine AL.rd rfl rfl (rd_load_flat Tryd.underlying9 rfl rfl rfl rfl rfl rfl (fun _ => rfl) (by assumption) rfl) ?_))
      refine AL.call (post := ?pc5) rfl (sm_call (args := [_]) ?hc5 ⟨Tryd.func27, rfl, rfl, rfl, rfl⟩ rfl rfl rfl rfl) ?_
      case hc5 => exact hso
      rintro _ rfl -
      try dsimp only
      refine AL.sm rfl (sm_alloc (l := [.d (.p (.int .i64 0)), .d (.p (.int .i64 0)), .d (.p (.int .i64 0)), .d (.p (.int .i64 0)), .d (.p (.string ⟨#[]⟩))]) 9 inf60 rfl (by first | rfl | simp [S.clean, S.put, S.newObj, S.forget, V.has, V.hasL, junkIf, setL, V.cs, hasL_i, hasL_d, hasL_b, hasL_s, hasL_n, hasL_rep, hasL_flat, hasL_append, -List.map_set]) rfl rfl) ?_
      refine AL.st rfl (st_store_any inf60 rfl rfl rfl rfl rfl rfl rfl rfl (by first | decide | (simp; done) | (simp; omega)) rfl) ?_
      refine AL.nil ?_
      try simp only [thenS, S.put, S.newObj, setL, V.cs, List.length_cons, List.length_nil, List.take_succ_cons, List.take_zero, List.drop_succ_cons, List.drop_zero, List.drop_nil, List.nil_append, List.cons_append, List.append_nil, Nat.zero_add, Nat.reduceAdd, List.map_cons, List.map_nil, List.set_cons_zero, List.set_cons_succ]
      refine AW.seq ?_
      refine AW.region ?_
      (first | (refine AL.rd rfl rfl (rd_loads_ref Tryd.underlying60 rfl inf60 rfl rfl rfl rfl rfl rfl) ?_) | (refine AL.rd rfl rfl (rd_loads_ad Tryd.underlying60 rfl inf60 rfl rfl rfl rfl) ?_))
      refine AL.call (post := ?pc6) rfl (sm_call (args := [_]) ?hc6 ⟨Tryd.func28, rfl, rfl, rfl, rfl⟩ rfl rfl rfl rfl) ?_
      case hc6 => exact hsh
      rintro _ rfl -
      try dsimp only
      refine AL.rp rfl rfl (rp_move rfl rfl) ?_
      refine AL.rp rfl rfl (rp_extract rfl rfl rfl) ?_
      refine AL.rp rfl rfl (rp_extract rfl rfl rfl) ?_
      refine AL.rp rfl rfl (rp_assign rfl rfl) ?_
      refine AL.rp rfl rfl (rp_assign rfl rfl) ?_
      refine AL.nil ?_
      try simp only [thenS, S.put, S.newObj, setL, V.cs, List.length_cons, List.length_nil, List.take_succ_cons, List.take_zero, List.drop_succ_cons, List.drop_zero, List.drop_nil, List.nil_append, List.cons_append, List.append_nil, Nat.zero_add, Nat.reduceAdd, List.map_cons, List.map_nil, List.set_cons_zero, List.set_cons_succ]
      refine AW.seq ?_
      refine AW.seq ?_
      refine AW.region ?_
      refine AL.rp rfl rfl (rp_move rfl rfl) ?_
      (first | (refine AL.rp rfl rfl (rp_neqT rfl rfl rfl (by first | assumption | omega | (dsimp only; omega))) ?_) | (refine AL.rp rfl rfl (rp_neqF rfl rfl rfl (by first | assumption | omega | (dsimp only; omega))) ?_) | (refine AL.rp rfl rfl (rp_neq rfl rfl rfl) ?_))
      refine AL.rp rfl rfl (rp_move rfl rfl) ?_
      (first | (refine AL.noV rfl rfl rfl rfl ?_) | (refine AL.noU rfl ⟨_, rfl, rfl⟩ rfl ?_) | (refine AL.rpy rfl rfl rfl (rp_move rfl rfl) ?_))
      (first | (refine AL.noV rfl rfl rfl rfl ?_) | (refine AL.noU rfl ⟨_, rfl, rfl⟩ rfl ?_) | (refine AL.rpy rfl rfl rfl (rp_move rfl rfl) ?_))
      (first | (refine AL.noV rfl rfl rfl rfl ?_) | (refine AL.noU rfl ⟨_, rfl, rfl⟩ rfl ?_) | (refine AL.rpy rfl rfl rfl (rp_move rfl rfl) ?_))
      (first | (refine AL.noV rfl rfl rfl rfl ?_) | (refine AL.noU rfl ⟨_, rfl, rfl⟩ rfl ?_) | (refine AL.rpy rfl rfl rfl (rp_index_own (k := i) Tryd.underlying53 inf9 rfl rfl rfl (by omega) (by omega)) ?_) | (refine AL.rpy rfl rfl rfl (rp_index_map (k := i) Tryd.underlying53 inf9 rfl rfl rfl (by omega) (by assumption)) ?_))
      (first | (refine AL.noV rfl rfl rfl rfl ?_) | (refine AL.noU rfl ⟨_, rfl, rfl⟩ rfl ?_) | (refine AL.rdy rfl rfl rfl (rd_load_ref Tryd.underlying9 rfl rfl rfl rfl rfl rfl) ?_) | (refine AL.rdy rfl rfl rfl (rd_load_ad Tryd.underlying9 rfl rfl rfl rfl) ?_) | (refine AL.rdy rfl rfl rfl (rd_load_map Tryd.underlying9 rfl rfl rfl rfl rfl rfl (by assumption)) ?_) | (refine AL.rdy rfl rfl rfl (rd_load_flat Tryd.underlying9 rfl rfl rfl rfl rfl rfl (fun _ => rfl) (by assumption) rfl) ?_))
      (first | (refine AL.noV rfl rfl rfl rfl ?_) | (refine AL.noU rfl ⟨_, rfl, rfl⟩ rfl ?_) | (refine AL.rpy rfl rfl rfl (rp_adds rfl rfl rfl (by first | assumption | omega | (simp only [ByteArray.size_append]; omega))) ?_))
      (first | (refine AL.noV rfl rfl rfl rfl ?_) | (refine AL.noU rfl ⟨_, rfl, rfl⟩ rfl ?_) | (refine AL.rpy rfl rfl rfl (rp_neqsF rfl rfl rfl (by assumption)) ?_) | (refine AL.rpy rfl rfl rfl (rp_neqsT rfl rfl rfl (by assumption)) ?_) | (refine AL.rpy rfl rfl rfl (rp_neqs rfl rfl rfl) ?_))
      refine AL.rp rfl rfl (rp_pick rfl rfl rfl) ?_
      refine AL.nil ?_
      try simp only [thenS, S.put]
      refine AW.condT rfl ?_
      refine AW.seq ?_
      refine AW.region ?_
      refine AL.rp rfl rfl (rp_move rfl rfl) ?_
      refine AL.rp rfl rfl (rp_assign rfl rfl) ?_
      refine AL.rp rfl rfl (rp_assign rfl rfl) ?_
      refine AL.rp rfl rfl (rp_assign rfl rfl) ?_
      refine AL.nil ?_
      try simp only [thenS, S.put]
      refine AW.ret ?_
      exact ⟨[_, _, _], ⟨rfl, rfl, rfl, trivial⟩, rfl, by simp [tupOf, V.pure, V.has, V.hasL, nlV]⟩
  ·obtain rfl : i = n := by omega
   rw [List.drop_eq_nil_of_le (by omega), List.map_nil, List.nil_append] at hS
   rcases hwt with ⟨rfl, rfl⟩ | ⟨rfl, q, hq, rfl⟩
   ·obtain rfl : R = (acc, 0, 0) := hS.symm
    dsimp only
    rw [if_pos rfl]
    unfold stRow
    refine AW.freeze 7 48 (acc.map stpD) rfl rfl rfl (by rw [List.length_map]; exact hacc) (by omega) (rowsF (enc := stpD) (sz := 5) (l := acc) (fun _ => rfl) rfl) ?_
    refine AW.seq ?_
    refine AW.seq ?_
    refine AW.region ?_
    refine AL.rp rfl rfl (rp_move rfl rfl) ?_
    refine AL.rp rfl rfl (rp_move rfl rfl) ?_
    (first | (refine AL.rp rfl rfl (rp_len_map Tryd.underlying53 rfl rfl (by assumption)) ?_) | (refine AL.rp rfl rfl (rp_len_own Tryd.underlying53 rfl rfl) ?_) | (refine AL.rp rfl rfl (rp_len_sl Tryd.underlying53 rfl rfl) ?_) | (refine AL.rp rfl rfl (rp_len_nil Tryd.underlying53 rfl rfl) ?_) | (refine AL.rp rfl rfl (rp_len_str Tryd.underlying53 rfl rfl) ?_))
    (first | (refine AL.rp rfl rfl (rp_lssT rfl rfl rfl (by first | assumption | omega | (dsimp only; omega))) ?_) | (refine AL.rp rfl rfl (rp_lssF rfl rfl rfl (by first | assumption | omega | (dsimp only; omega))) ?_) | (refine AL.rp rfl rfl (rp_lss rfl rfl rfl) ?_))
    refine AL.nil ?_
    try simp only [thenS, S.put]
    refine AW.condF rfl ?_
    refine AW.exit ?_
    try simp only [thenS, inBlockS, ↓reduceIte, Nat.reduceEqDiff]
    refine AW.seq ?_
    refine AW.seq ?_
    refine AW.region ?_
    refine AL.rp rfl rfl (rp_move rfl rfl) ?_
    refine AL.rp rfl rfl (rp_not rfl rfl) ?_
    refine AL.rp rfl rfl (rp_move rfl rfl) ?_
    (first | (refine AL.noV rfl rfl rfl rfl ?_) | (refine AL.noU rfl ⟨_, rfl, rfl⟩ rfl ?_) | (refine AL.rpy rfl rfl rfl (rp_move rfl rfl) ?_))
    (first | (refine AL.noV rfl rfl rfl rfl ?_) | (refine AL.noU rfl ⟨_, rfl, rfl⟩ rfl ?_) | (refine AL.rpy rfl rfl rfl (rp_len_map Tryd.underlying53 rfl rfl (by assumption)) ?_) | (refine AL.rpy rfl rfl rfl (rp_len_own Tryd.underlying53 rfl rfl) ?_) | (refine AL.rpy rfl rfl rfl (rp_len_sl Tryd.underlying53 rfl rfl) ?_) | (refine AL.rpy rfl rfl rfl (rp_len_nil Tryd.underlying53 rfl rfl) ?_) | (refine AL.rpy rfl rfl rfl (rp_len_str Tryd.underlying53 rfl rfl) ?_))
    (first | (refine AL.noV rfl rfl rfl rfl ?_) | (refine AL.noU rfl ⟨_, rfl, rfl⟩ rfl ?_) | (refine AL.rpy rfl rfl rfl (rp_eqlT rfl rfl rfl (by first | assumption | omega | (dsimp only; omega))) ?_) | (refine AL.rpy rfl rfl rfl (rp_eqlF rfl rfl rfl (by first | assumption | omega | (dsimp only; omega))) ?_) | (refine AL.rpy rfl rfl rfl (rp_eql rfl rfl rfl) ?_))
    refine AL.rp rfl rfl (rp_pick rfl rfl rfl) ?_
    refine AL.nil ?_
    try simp only [thenS, S.put]
    refine AW.condF rfl ?_
    refine AW.skip ?_
    try simp only [thenS]
    refine AW.seq ?_
    refine AW.seq ?_
    refine AW.region ?_
    refine AL.rp rfl rfl (rp_move rfl rfl) ?_
    refine AL.rp rfl rfl (rp_not rfl rfl) ?_
    refine AL.nil ?_
    try simp only [thenS, S.put]
    refine AW.condF rfl ?_
    refine AW.skip ?_
    try simp only [thenS]
    refine AW.seq ?_
    refine AW.region ?_
    refine AL.rp rfl rfl (rp_move rfl rfl) ?_
    refine AL.rp rfl rfl (rp_assign rfl rfl) ?_
    refine AL.rp rfl rfl (rp_assign rfl rfl) ?_
    refine AL.rp rfl rfl (rp_assign rfl rfl) ?_
    refine AL.nil ?_
    try simp only [thenS, S.put]
    refine AW.ret ?_
    exact ⟨[_, _, _], ⟨rfl, rfl, rfl, trivial⟩, rfl, by simp [tupOf, V.pure, V.has, V.hasL]⟩
   ·by_cases hf : i = 30
    ·rw [scn_full (by omega)] at hS
     subst hS
     rw [hacc]
     dsimp only
     rw [if_neg (by decide)]
     unfold strsD
     refine AW.seq ?_
     refine AW.seq ?_
     refine AW.region ?_
     refine AL.rp rfl rfl (rp_move rfl rfl) ?_
     refine AL.rp rfl rfl (rp_move rfl rfl) ?_
     (first | (refine AL.rp rfl rfl (rp_len_map Tryd.underlying53 rfl rfl (by assumption)) ?_) | (refine AL.rp rfl rfl (rp_len_own Tryd.underlying53 rfl rfl) ?_) | (refine AL.rp rfl rfl (rp_len_sl Tryd.underlying53 rfl rfl) ?_) | (refine AL.rp rfl rfl (rp_len_nil Tryd.underlying53 rfl rfl) ?_) | (refine AL.rp rfl rfl (rp_len_str Tryd.underlying53 rfl rfl) ?_))
     (first | (refine AL.rp rfl rfl (rp_lssT rfl rfl rfl (by first | assumption | omega | (dsimp only; omega))) ?_) | (refine AL.rp rfl rfl (rp_lssF rfl rfl rfl (by first | assumption | omega | (dsimp only; omega))) ?_) | (refine AL.rp rfl rfl (rp_lss rfl rfl rfl) ?_))
     refine AL.nil ?_
     try simp only [thenS, S.put]
     refine AW.condF rfl ?_
     refine AW.exit ?_
     try simp only [thenS, inBlockS, ↓reduceIte, Nat.reduceEqDiff]
     refine AW.seq ?_
     refine AW.seq ?_
     refine AW.region ?_
     refine AL.rp rfl rfl (rp_move rfl rfl) ?_
     refine AL.rp rfl rfl (rp_not rfl rfl) ?_
     refine AL.rp rfl rfl (rp_move rfl rfl) ?_
     (first | (refine AL.noV rfl rfl rfl rfl ?_) | (refine AL.noU rfl ⟨_, rfl, rfl⟩ rfl ?_) | (refine AL.rpy rfl rfl rfl (rp_move rfl rfl) ?_))
     (first | (refine AL.noV rfl rfl rfl rfl ?_) | (refine AL.noU rfl ⟨_, rfl, rfl⟩ rfl ?_) | (refine AL.rpy rfl rfl rfl (rp_len_map Tryd.underlying53 rfl rfl (by assumption)) ?_) | (refine AL.rpy rfl rfl rfl (rp_len_own Tryd.underlying53 rfl rfl) ?_) | (refine AL.rpy rfl rfl rfl (rp_len_sl Tryd.underlying53 rfl rfl) ?_) | (refine AL.rpy rfl rfl rfl (rp_len_nil Tryd.underlying53 rfl rfl) ?_) | (refine AL.rpy rfl rfl rfl (rp_len_str Tryd.underlying53 rfl rfl) ?_))
     (first | (refine AL.noV rfl rfl rfl rfl ?_) | (refine AL.noU rfl ⟨_, rfl, rfl⟩ rfl ?_) | (refine AL.rpy rfl rfl rfl (rp_eqlT rfl rfl rfl (by first | assumption | omega | (dsimp only; omega))) ?_) | (refine AL.rpy rfl rfl rfl (rp_eqlF rfl rfl rfl (by first | assumption | omega | (dsimp only; omega))) ?_) | (refine AL.rpy rfl rfl rfl (rp_eql rfl rfl rfl) ?_))
     refine AL.rp rfl rfl (rp_pick rfl rfl rfl) ?_
     refine AL.nil ?_
     try simp only [thenS, S.put]
     refine AW.condT rfl ?_
     refine AW.seq ?_
     refine AW.region ?_
     refine AL.rp rfl rfl (rp_move rfl rfl) ?_
     (first | (refine AL.rp rfl rfl (rp_len_map Tryd.underlying53 rfl rfl (by assumption)) ?_) | (refine AL.rp rfl rfl (rp_len_own Tryd.underlying53 rfl rfl) ?_) | (refine AL.rp rfl rfl (rp_len_sl Tryd.underlying53 rfl rfl) ?_) | (refine AL.rp rfl rfl (rp_len_nil Tryd.underlying53 rfl rfl) ?_) | (refine AL.rp rfl rfl (rp_len_str Tryd.underlying53 rfl rfl) ?_))
     refine AL.rp rfl rfl (rp_assign rfl rfl) ?_
     refine AL.rp rfl rfl (rp_assign rfl rfl) ?_
     refine AL.rp rfl rfl (rp_assign rfl rfl) ?_
     refine AL.nil ?_
     try simp only [thenS, S.put]
     refine AW.ret ?_
     exact ⟨[_, _, _], ⟨rfl, rfl, rfl, trivial⟩, rfl, by simp [tupOf, V.pure, V.has, V.hasL, nlV]⟩
    ·rw [scn_no (by omega) (okP_no hq)] at hS
     subst hS
     rw [hacc]
     dsimp only
     rw [if_neg (by decide)]
     unfold strsD
     refine AW.seq ?_
     refine AW.seq ?_
     refine AW.region ?_
     refine AL.rp rfl rfl (rp_move rfl rfl) ?_
     refine AL.rp rfl rfl (rp_move rfl rfl) ?_
     (first | (refine AL.rp rfl rfl (rp_len_map Tryd.underlying53 rfl rfl (by assumption)) ?_) | (refine AL.rp rfl rfl (rp_len_own Tryd.underlying53 rfl rfl) ?_) | (refine AL.rp rfl rfl (rp_len_sl Tryd.underlying53 rfl rfl) ?_) | (refine AL.rp rfl rfl (rp_len_nil Tryd.underlying53 rfl rfl) ?_) | (refine AL.rp rfl rfl (rp_len_str Tryd.underlying53 rfl rfl) ?_))
     (first | (refine AL.rp rfl rfl (rp_lssT rfl rfl rfl (by first | assumption | omega | (dsimp only; omega))) ?_) | (refine AL.rp rfl rfl (rp_lssF rfl rfl rfl (by first | assumption | omega | (dsimp only; omega))) ?_) | (refine AL.rp rfl rfl (rp_lss rfl rfl rfl) ?_))
     refine AL.nil ?_
     try simp only [thenS, S.put]
     refine AW.condF rfl ?_
     refine AW.exit ?_
     try simp only [thenS, inBlockS, ↓reduceIte, Nat.reduceEqDiff]
     refine AW.seq ?_
     refine AW.seq ?_
     refine AW.region ?_
     refine AL.rp rfl rfl (rp_move rfl rfl) ?_
     refine AL.rp rfl rfl (rp_not rfl rfl) ?_
     refine AL.rp rfl rfl (rp_move rfl rfl) ?_
     (first | (refine AL.noV rfl rfl rfl rfl ?_) | (refine AL.noU rfl ⟨_, rfl, rfl⟩ rfl ?_) | (refine AL.rpy rfl rfl rfl (rp_move rfl rfl) ?_))
     (first | (refine AL.noV rfl rfl rfl rfl ?_) | (refine AL.noU rfl ⟨_, rfl, rfl⟩ rfl ?_) | (refine AL.rpy rfl rfl rfl (rp_len_map Tryd.underlying53 rfl rfl (by assumption)) ?_) | (refine AL.rpy rfl rfl rfl (rp_len_own Tryd.underlying53 rfl rfl) ?_) | (refine AL.rpy rfl rfl rfl (rp_len_sl Tryd.underlying53 rfl rfl) ?_) | (refine AL.rpy rfl rfl rfl (rp_len_nil Tryd.underlying53 rfl rfl) ?_) | (refine AL.rpy rfl rfl rfl (rp_len_str Tryd.underlying53 rfl rfl) ?_))
     (first | (refine AL.noV rfl rfl rfl rfl ?_) | (refine AL.noU rfl ⟨_, rfl, rfl⟩ rfl ?_) | (refine AL.rpy rfl rfl rfl (rp_eqlT rfl rfl rfl (by first | assumption | omega | (dsimp only; omega))) ?_) | (refine AL.rpy rfl rfl rfl (rp_eqlF rfl rfl rfl (by first | assumption | omega | (dsimp only; omega))) ?_) | (refine AL.rpy rfl rfl rfl (rp_eql rfl rfl rfl) ?_))
     refine AL.rp rfl rfl (rp_pick rfl rfl rfl) ?_
     refine AL.nil ?_
     try simp only [thenS, S.put]
     refine AW.condF rfl ?_
     refine AW.skip ?_
     try simp only [thenS]
     refine AW.seq ?_
     refine AW.seq ?_
     refine AW.region ?_
     refine AL.rp rfl rfl (rp_move rfl rfl) ?_
     refine AL.rp rfl rfl (rp_not rfl rfl) ?_
     refine AL.nil ?_
     try simp only [thenS, S.put]
     refine AW.condT rfl ?_
     refine AW.seq ?_
     refine AW.region ?_
     refine AL.rp rfl rfl (rp_move rfl rfl) ?_
     (first | (refine AL.rp rfl rfl (rp_len_map Tryd.underlying53 rfl rfl (by assumption)) ?_) | (refine AL.rp rfl rfl (rp_len_own Tryd.underlying53 rfl rfl) ?_) | (refine AL.rp rfl rfl (rp_len_sl Tryd.underlying53 rfl rfl) ?_) | (refine AL.rp rfl rfl (rp_len_nil Tryd.underlying53 rfl rfl) ?_) | (refine AL.rp rfl rfl (rp_len_str Tryd.underlying53 rfl rfl) ?_))
     refine AL.rp rfl rfl (rp_assign rfl rfl) ?_
     refine AL.rp rfl rfl (rp_assign rfl rfl) ?_
     refine AL.rp rfl rfl (rp_assign rfl rfl) ?_
     refine AL.nil ?_
     try simp only [thenS, S.put]
     refine AW.ret ?_
     exact ⟨[_, _, _], ⟨rfl, rfl, rfl, trivial⟩, rfl, by simp [tupOf, V.pure, V.has, V.hasL, nlV]⟩
end Go.Proofs.YtlgnjehfojogmaaDoor
namespace Go.Proofs.YtlgnjehfojogmaaDoor
open Go.RowKit
set_option linter.unusedSimpArgs false
set_option linter.unusedVariables false

section
variable {c : Cx} {s : S} {Q : Exit → S → Prop} {L : List Oper} {l : Array Bool} {ro : Option Nat}
theorem AF.condT {x : Operand} {t e : Code} (hc : s.ev x = some (.b true)) (h : AF ro c t Q s) : AF ro c (.cond x t e) Q s := AF.cond hc (fun _ => h) (fun h' => by cases h')
theorem AF.condF {x : Operand} {t e : Code} (hc : s.ev x = some (.b false)) (h : AF ro c e Q s) : AF ro c (.cond x t e) Q s := AF.cond hc (fun h' => by cases h') (fun _ => h)
theorem noDf_get {L : List Oper} (h : noDf L = true) {i : Nat} {o : Oper} (hi : L[i]? = some o) : ∀ d, o.op ≠ .defer d := fun d e => by
  have := List.all_eq_true.1 h o (List.mem_of_getElem? hi)
  rw [e] at this
  exact absurd this (by simp)
theorem any_in {P : Program} {md : Region.Mode} {L : List Oper} {Qc : Exit → Act → World → Prop} (hd : noDf L = true) (hq : ¬ LetsOut Qc) : ∀ (n : Nat) (listed : Array Bool) (a : Act) (w : World), wpAny P md L.toArray Qc n listed a w → wpAnyIn (fw ro) 0 P md L.toArray Qc n listed a w
  | 0, _, _, _, h => h
  | n + 1, listed, a, w, h => ⟨h.1, fun i hi => by
    have h2 := h.2 i hi
    unfold wpOp at h2
    unfold wpOpIn
    cases ho : L.toArray[i]? with
    | none =>
      rw [ho] at h2
      exact any_in hd hq n _ _ _ h2
    | some o =>
      rw [ho] at h2
      simp only at h2 ⊢
      split
      · rename_i hw
        rw [if_pos hw] at h2
        rcases h2 with h2 | ⟨_, h3⟩
        · exact Oper.wpIn_mono (fun a w h => any_in hd hq n _ _ _ h) (op_in (noDf_get hd (by simpa using ho)) h2)
        · exact (hq h3).elim
      · rename_i hw
        rw [if_neg hw] at h2
        exact ⟨fun f _ => trivial, any_in hd hq n _ _ _ h2⟩⟩
theorem AF.drawT {id : Nat} {N : S} (n : Nat) (hm : c.P.follows .mixedOrders = true) (hlen : L.length = n) (hl : Array.replicate n false = l) (h : AN c L.toArray (QJ N) n l s) (hN : Q .normal N) (hd : noDf L = true := by rfl) : AF ro c (.region id L.toArray true) Q s := by
  intro g a w hs
  refine wpIn_mono (Q := QQ c (QJ N)) ?_ (fun e a w hq => by
    obtain ⟨g', s', h3, h4⟩ := hq
    cases e <;> first | exact ⟨g', N, hN, h4.less h3⟩ | exact h3.elim)
  refine wpIn_region_any hm ?_
  have hs' : Sim c g s a w.drew := hs.move (Below.drew (Below.refl _ _))
  subst hl hlen
  have h1 := any_of_anyN _ _ _ _ (h (by
    intro j oj _ hl
    rw [Array.getD_eq_getD_getElem?, Array.getElem?_replicate] at hl
    split at hl <;> simp at hl) g a _ hs')
  refine any_in hd ?_ _ _ _ _ (by simpa using h1)
  rintro ⟨a', w', g', s', h3, _⟩
  exact h3
end
end Go.Proofs.YtlgnjehfojogmaaDoor
