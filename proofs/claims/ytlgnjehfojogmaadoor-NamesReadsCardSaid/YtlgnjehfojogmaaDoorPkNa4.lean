/- Part 4 of what the law NamesReads rests on. -/
import Derived.Laws.RangeString
import Derived.Laws.RangeAny
import Derived.LoopTactic
import Derived.Test.YtlgnjehfojogmaaDoorPkNa1
import Derived.Test.YtlgnjehfojogmaaDoorPkNa2
import Derived.Test.YtlgnjehfojogmaaDoorPkNa3
namespace Go.Proofs.YtlgnjehfojogmaaDoor
open Go.RowKit
set_option linter.unusedSimpArgs false
set_option linter.unusedVariables false
set_option maxRecDepth 100000

def numM (m : Nat) (l : List UInt8) : Int := if 12 < l.length then -1 else if l = [] ∨ (l[0]? = some 48 ∧ 1 < l.length) then -2 else match Lib.decFrom 0 l with | none => -2 | some n => if m < n then (m : Int) + 1 else n
set_option maxHeartbeats 1000000 in
theorem am_NumberM (m : Nat) (hm : m ≤ 1000000000) (str : ByteArray) (l : List UInt8) (hl : str.data.toList = l) : Fn Tryd.prog 23 [.s str, .i (m : Int)] (fun v => v = .i (numM m l)) := by
 obtain ⟨n, hn⟩ : ∃ n, l.length = n := ⟨_, rfl⟩
 have hsz : str.size = n := by rw [← hn, ← hl]; exact Array.length_toList.symm
 by_cases h12 : 12 < n
 ·have hR : numM m l = -1 := by unfold numM; rw [if_pos (by omega)]
  rw [hR]
  refine Fn.intro (n := 48) ⟨Tryd.func23, rfl, rfl, rfl, rfl⟩ (by simp [V.pure, V.has, V.hasL]) (by simp) fun w0 out => ?_
  refine AW.seq ?_
  refine AW.region ?_
  refine AL.rp rfl rfl (rp_assign rfl rfl) ?_
  refine AL.nil ?_
  try simp only [thenS, S.put, enum, List.nil_append, List.cons_append, List.append_nil, Nat.zero_add, Nat.reduceAdd]
  refine AW.seq ?_
  refine AW.seq ?_
  refine AW.region ?_
  refine AL.rp rfl rfl (rp_move rfl rfl) ?_
  (first | (refine AL.rp rfl rfl (rp_len_map Tryd.underlying9 rfl rfl (by assumption)) ?_) | (refine AL.rp rfl rfl (rp_len_own Tryd.underlying9 rfl rfl) ?_) | (refine AL.rp rfl rfl (rp_len_sl Tryd.underlying9 rfl rfl) ?_) | (refine AL.rp rfl rfl (rp_len_nil Tryd.underlying9 rfl rfl) ?_) | (refine AL.rp rfl rfl (rp_len_str Tryd.underlying9 rfl rfl) ?_))
  (first | (refine AL.rp rfl rfl (rp_gtrT rfl rfl rfl (by first | assumption | omega | (dsimp only; omega))) ?_) | (refine AL.rp rfl rfl (rp_gtrF rfl rfl rfl (by first | assumption | omega | (dsimp only; omega))) ?_) | (refine AL.rp rfl rfl (rp_gtr rfl rfl rfl) ?_))
  refine AL.nil ?_
  try simp only [thenS, S.put]
  refine AW.condT rfl ?_
  refine AW.seq ?_
  refine AW.region ?_
  refine AL.rp rfl rfl (rp_assign rfl rfl) ?_
  refine AL.nil ?_
  try simp only [thenS, S.put]
  refine AW.ret ?_
  exact ⟨[_], ⟨rfl, trivial⟩, rfl, by simp [tupOf, V.pure, V.has, V.hasL]⟩
 ·by_cases h00 : n = 0
  ·have hR : numM m l = -2 := by unfold numM; rw [if_neg (by omega), if_pos (.inl (List.length_eq_zero_iff.1 (by omega)))]
   rw [hR]
   refine Fn.intro (n := 48) ⟨Tryd.func23, rfl, rfl, rfl, rfl⟩ (by simp [V.pure, V.has, V.hasL]) (by simp) fun w0 out => ?_
   refine AW.seq ?_
   refine AW.region ?_
   refine AL.rp rfl rfl (rp_assign rfl rfl) ?_
   refine AL.nil ?_
   try simp only [thenS, S.put, enum, List.nil_append, List.cons_append, List.append_nil, Nat.zero_add, Nat.reduceAdd]
   refine AW.seq ?_
   refine AW.seq ?_
   refine AW.region ?_
   refine AL.rp rfl rfl (rp_move rfl rfl) ?_
   (first | (refine AL.rp rfl rfl (rp_len_map Tryd.underlying9 rfl rfl (by assumption)) ?_) | (refine AL.rp rfl rfl (rp_len_own Tryd.underlying9 rfl rfl) ?_) | (refine AL.rp rfl rfl (rp_len_sl Tryd.underlying9 rfl rfl) ?_) | (refine AL.rp rfl rfl (rp_len_nil Tryd.underlying9 rfl rfl) ?_) | (refine AL.rp rfl rfl (rp_len_str Tryd.underlying9 rfl rfl) ?_))
   (first | (refine AL.rp rfl rfl (rp_gtrT rfl rfl rfl (by first | assumption | omega | (dsimp only; omega))) ?_) | (refine AL.rp rfl rfl (rp_gtrF rfl rfl rfl (by first | assumption | omega | (dsimp only; omega))) ?_) | (refine AL.rp rfl rfl (rp_gtr rfl rfl rfl) ?_))
   refine AL.nil ?_
   try simp only [thenS, S.put]
   refine AW.condF rfl ?_
   refine AW.skip ?_
   try simp only [thenS]
   refine AW.seq ?_
   refine AW.seq ?_
   refine AW.region ?_
   refine AL.rp rfl rfl (rp_move rfl rfl) ?_
   (first | (refine AL.rp rfl rfl (rp_len_map Tryd.underlying9 rfl rfl (by assumption)) ?_) | (refine AL.rp rfl rfl (rp_len_own Tryd.underlying9 rfl rfl) ?_) | (refine AL.rp rfl rfl (rp_len_sl Tryd.underlying9 rfl rfl) ?_) | (refine AL.rp rfl rfl (rp_len_nil Tryd.underlying9 rfl rfl) ?_) | (refine AL.rp rfl rfl (rp_len_str Tryd.underlying9 rfl rfl) ?_))
   (first | (refine AL.rp rfl rfl (rp_eqlT rfl rfl rfl (by first | assumption | omega | (dsimp only; omega))) ?_) | (refine AL.rp rfl rfl (rp_eqlF rfl rfl rfl (by first | assumption | omega | (dsimp only; omega))) ?_) | (refine AL.rp rfl rfl (rp_eql rfl rfl rfl) ?_))
   refine AL.rp rfl rfl (rp_move rfl rfl) ?_
   (first | (refine AL.noV rfl rfl rfl rfl ?_) | (refine AL.noU rfl ⟨_, rfl, rfl⟩ rfl ?_) | (refine AL.rpy rfl rfl rfl (rp_move rfl rfl) ?_))
   (first | (refine AL.noV rfl rfl rfl rfl ?_) | (refine AL.noU rfl ⟨_, rfl, rfl⟩ rfl ?_) | (refine AL.rpy rfl rfl rfl (rp_index_str Tryd.underlying9 rfl rfl rfl (by first | rfl | omega) (by assumption)) ?_))
   (first | (refine AL.noV rfl rfl rfl rfl ?_) | (refine AL.noU rfl ⟨_, rfl, rfl⟩ rfl ?_) | (refine AL.rpy rfl rfl rfl (rp_eqlT rfl rfl rfl (by first | assumption | omega | (dsimp only; omega))) ?_) | (refine AL.rpy rfl rfl rfl (rp_eqlF rfl rfl rfl (by first | assumption | omega | (dsimp only; omega))) ?_) | (refine AL.rpy rfl rfl rfl (rp_eql rfl rfl rfl) ?_))
   (first | (refine AL.noV rfl rfl rfl rfl ?_) | (refine AL.noU rfl ⟨_, rfl, rfl⟩ rfl ?_) | (refine AL.rpy rfl rfl rfl (rp_move rfl rfl) ?_))
   (first | (refine AL.noV rfl rfl rfl rfl ?_) | (refine AL.noU rfl ⟨_, rfl, rfl⟩ rfl ?_) | (refine AL.rpy rfl rfl rfl (rp_move rfl rfl) ?_))
   (first | (refine AL.noV rfl rfl rfl rfl ?_) | (refine AL.noU rfl ⟨_, rfl, rfl⟩ rfl ?_) | (refine AL.rpy rfl rfl rfl (rp_len_map Tryd.underlying9 rfl rfl (by assumption)) ?_) | (refine AL.rpy rfl rfl rfl (rp_len_own Tryd.underlying9 rfl rfl) ?_) | (refine AL.rpy rfl rfl rfl (rp_len_sl Tryd.underlying9 rfl rfl) ?_) | (refine AL.rpy rfl rfl rfl (rp_len_nil Tryd.underlying9 rfl rfl) ?_) | (refine AL.rpy rfl rfl rfl (rp_len_str Tryd.underlying9 rfl rfl) ?_))
   (first | (refine AL.noV rfl rfl rfl rfl ?_) | (refine AL.noU rfl ⟨_, rfl, rfl⟩ rfl ?_) | (refine AL.rpy rfl rfl rfl (rp_gtrT rfl rfl rfl (by first | assumption | omega | (dsimp only; omega))) ?_) | (refine AL.rpy rfl rfl rfl (rp_gtrF rfl rfl rfl (by first | assumption | omega | (dsimp only; omega))) ?_) | (refine AL.rpy rfl rfl rfl (rp_gtr rfl rfl rfl) ?_))
   (first | (refine AL.noV rfl rfl rfl rfl ?_) | (refine AL.noU rfl ⟨_, rfl, rfl⟩ rfl ?_) | (refine AL.rpy rfl rfl rfl (rp_pick rfl rfl rfl) ?_))
   refine AL.rp rfl rfl (rp_pick rfl rfl rfl) ?_
   refine AL.nil ?_
   try simp only [thenS, S.put]
   refine AW.condT rfl ?_
   refine AW.seq ?_
   refine AW.region ?_
   refine AL.rp rfl rfl (rp_assign rfl rfl) ?_
   refine AL.nil ?_
   try simp only [thenS, S.put]
   refine AW.ret ?_
   exact ⟨[_], ⟨rfl, trivial⟩, rfl, by simp [tupOf, V.pure, V.has, V.hasL]⟩
  ·have hne : l ≠ [] := by rintro rfl; simp at hn; omega
   obtain ⟨b0, hb0⟩ : ∃ b0, l[0]? = some b0 := ⟨_, List.getElem?_eq_getElem (by omega)⟩
   have hs0 : str.data.toList[0]? = some b0 := by rw [hl]; exact hb0
   by_cases hz : b0.toNat = 48 ∧ 1 < n
   ·have hR : numM m l = -2 := by unfold numM; rw [if_neg (by omega), if_pos (.inr ⟨by rw [hb0, b48.1 hz.1], by omega⟩)]
    rw [hR]
    obtain ⟨hz1, hz2⟩ := hz
    refine Fn.intro (n := 48) ⟨Tryd.func23, rfl, rfl, rfl, rfl⟩ (by simp [V.pure, V.has, V.hasL]) (by simp) fun w0 out => ?_
    refine AW.seq ?_
    refine AW.region ?_
    refine AL.rp rfl rfl (rp_assign rfl rfl) ?_
    refine AL.nil ?_
    try simp only [thenS, S.put, enum, List.nil_append, List.cons_append, List.append_nil, Nat.zero_add, Nat.reduceAdd]
    refine AW.seq ?_
    refine AW.seq ?_
    refine AW.region ?_
    refine AL.rp rfl rfl (rp_move rfl rfl) ?_
    (first | (refine AL.rp rfl rfl (rp_len_map Tryd.underlying9 rfl rfl (by assumption)) ?_) | (refine AL.rp rfl rfl (rp_len_own Tryd.underlying9 rfl rfl) ?_) | (refine AL.rp rfl rfl (rp_len_sl Tryd.underlying9 rfl rfl) ?_) | (refine AL.rp rfl rfl (rp_len_nil Tryd.underlying9 rfl rfl) ?_) | (refine AL.rp rfl rfl (rp_len_str Tryd.underlying9 rfl rfl) ?_))
    (first | (refine AL.rp rfl rfl (rp_gtrT rfl rfl rfl (by first | assumption | omega | (dsimp only; omega))) ?_) | (refine AL.rp rfl rfl (rp_gtrF rfl rfl rfl (by first | assumption | omega | (dsimp only; omega))) ?_) | (refine AL.rp rfl rfl (rp_gtr rfl rfl rfl) ?_))
    refine AL.nil ?_
    try simp only [thenS, S.put]
    refine AW.condF rfl ?_
    refine AW.skip ?_
    try simp only [thenS]
    refine AW.seq ?_
    refine AW.seq ?_
    refine AW.region ?_
    refine AL.rp rfl rfl (rp_move rfl rfl) ?_
    (first | (refine AL.rp rfl rfl (rp_len_map Tryd.underlying9 rfl rfl (by assumption)) ?_) | (refine AL.rp rfl rfl (rp_len_own Tryd.underlying9 rfl rfl) ?_) | (refine AL.rp rfl rfl (rp_len_sl Tryd.underlying9 rfl rfl) ?_) | (refine AL.rp rfl rfl (rp_len_nil Tryd.underlying9 rfl rfl) ?_) | (refine AL.rp rfl rfl (rp_len_str Tryd.underlying9 rfl rfl) ?_))
    (first | (refine AL.rp rfl rfl (rp_eqlT rfl rfl rfl (by first | assumption | omega | (dsimp only; omega))) ?_) | (refine AL.rp rfl rfl (rp_eqlF rfl rfl rfl (by first | assumption | omega | (dsimp only; omega))) ?_) | (refine AL.rp rfl rfl (rp_eql rfl rfl rfl) ?_))
    refine AL.rp rfl rfl (rp_move rfl rfl) ?_
    (first | (refine AL.noV rfl rfl rfl rfl ?_) | (refine AL.noU rfl ⟨_, rfl, rfl⟩ rfl ?_) | (refine AL.rpy rfl rfl rfl (rp_move rfl rfl) ?_))
    (first | (refine AL.noV rfl rfl rfl rfl ?_) | (refine AL.noU rfl ⟨_, rfl, rfl⟩ rfl ?_) | (refine AL.rpy rfl rfl rfl (rp_index_str Tryd.underlying9 rfl rfl rfl (by first | rfl | omega) (by assumption)) ?_))
    (first | (refine AL.noV rfl rfl rfl rfl ?_) | (refine AL.noU rfl ⟨_, rfl, rfl⟩ rfl ?_) | (refine AL.rpy rfl rfl rfl (rp_eqlT rfl rfl rfl (by first | assumption | omega | (dsimp only; omega))) ?_) | (refine AL.rpy rfl rfl rfl (rp_eqlF rfl rfl rfl (by first | assumption | omega | (dsimp only; omega))) ?_) | (refine AL.rpy rfl rfl rfl (rp_eql rfl rfl rfl) ?_))
    (first | (refine AL.noV rfl rfl rfl rfl ?_) | (refine AL.noU rfl ⟨_, rfl, rfl⟩ rfl ?_) | (refine AL.rpy rfl rfl rfl (rp_move rfl rfl) ?_))
    (first | (refine AL.noV rfl rfl rfl rfl ?_) | (refine AL.noU rfl ⟨_, rfl, rfl⟩ rfl ?_) | (refine AL.rpy rfl rfl rfl (rp_move rfl rfl) ?_))
    (first | (refine AL.noV rfl rfl rfl rfl ?_) | (refine AL.noU rfl ⟨_, rfl, rfl⟩ rfl ?_) | (refine AL.rpy rfl rfl rfl (rp_len_map Tryd.underlying9 rfl rfl (by assumption)) ?_) | (refine AL.rpy rfl rfl rfl (rp_len_own Tryd.underlying9 rfl rfl) ?_) | (refine AL.rpy rfl rfl rfl (rp_len_sl Tryd.underlying9 rfl rfl) ?_) | (refine AL.rpy rfl rfl rfl (rp_len_nil Tryd.underlying9 rfl rfl) ?_) | (refine AL.rpy rfl rfl rfl (rp_len_str Tryd.underlying9 rfl rfl) ?_))
    (first | (refine AL.noV rfl rfl rfl rfl ?_) | (refine AL.noU rfl ⟨_, rfl, rfl⟩ rfl ?_) | (refine AL.rpy rfl rfl rfl (rp_gtrT rfl rfl rfl (by first | assumption | omega | (dsimp only; omega))) ?_) | (refine AL.rpy rfl rfl rfl (rp_gtrF rfl rfl rfl (by first | assumption | omega | (dsimp only; omega))) ?_) | (refine AL.rpy rfl rfl rfl (rp_gtr rfl rfl rfl) ?_))
    (first | (refine AL.noV rfl rfl rfl rfl ?_) | (refine AL.noU rfl ⟨_, rfl, rfl⟩ rfl ?_) | (refine AL.rpy rfl rfl rfl (rp_pick rfl rfl rfl) ?_))
    refine AL.rp rfl rfl (rp_pick rfl rfl rfl) ?_
    refine AL.nil ?_
    try simp only [thenS, S.put]
    refine AW.condT rfl ?_
    refine AW.seq ?_
    refine AW.region ?_
    refine AL.rp rfl rfl (rp_assign rfl rfl) ?_
    refine AL.nil ?_
    try simp only [thenS, S.put]
    refine AW.ret ?_
    exact ⟨[_], ⟨rfl, trivial⟩, rfl, by simp [tupOf, V.pure, V.has, V.hasL]⟩
   ·have hR : numM m l = match Lib.decFrom 0 l with | none => -2 | some n => if m < n then (m : Int) + 1 else n := by
     unfold numM
     rw [if_neg (by omega), if_neg]
     rintro (h | ⟨h1, h2⟩)
     ·exact hne h
     ·rw [hb0] at h1
      exact hz ⟨b48.2 (by simpa using h1), by omega⟩
    rw [hR]
    refine Fn.intro (n := 48) ⟨Tryd.func23, rfl, rfl, rfl, rfl⟩ (by simp [V.pure, V.has, V.hasL]) (by simp) fun w0 out => ?_
    refine AW.seq ?_
    refine AW.region ?_
    refine AL.rp rfl rfl (rp_assign rfl rfl) ?_
    refine AL.nil ?_
    try simp only [thenS, S.put, enum, List.nil_append, List.cons_append, List.append_nil, Nat.zero_add, Nat.reduceAdd]
    refine AW.seq ?_
    refine AW.seq ?_
    refine AW.region ?_
    refine AL.rp rfl rfl (rp_move rfl rfl) ?_
    (first | (refine AL.rp rfl rfl (rp_len_map Tryd.underlying9 rfl rfl (by assumption)) ?_) | (refine AL.rp rfl rfl (rp_len_own Tryd.underlying9 rfl rfl) ?_) | (refine AL.rp rfl rfl (rp_len_sl Tryd.underlying9 rfl rfl) ?_) | (refine AL.rp rfl rfl (rp_len_nil Tryd.underlying9 rfl rfl) ?_) | (refine AL.rp rfl rfl (rp_len_str Tryd.underlying9 rfl rfl) ?_))
    (first | (refine AL.rp rfl rfl (rp_gtrT rfl rfl rfl (by first | assumption | omega | (dsimp only; omega))) ?_) | (refine AL.rp rfl rfl (rp_gtrF rfl rfl rfl (by first | assumption | omega | (dsimp only; omega))) ?_) | (refine AL.rp rfl rfl (rp_gtr rfl rfl rfl) ?_))
    refine AL.nil ?_
    try simp only [thenS, S.put]
    refine AW.condF rfl ?_
    refine AW.skip ?_
    try simp only [thenS]
    refine AW.seqc (fun s' => s' = ⟨48, [(0, .s str), (1, .i (m : Int))], [], []⟩) ?_ ?_
    ·skip
     by_cases hz1 : b0.toNat = 48
     ·have hz2 : ¬ 1 < n := fun h => hz ⟨hz1, h⟩
      refine AW.seq ?_
      refine AW.region ?_
      refine AL.rp rfl rfl (rp_move rfl rfl) ?_
      (first | (refine AL.rp rfl rfl (rp_len_map Tryd.underlying9 rfl rfl (by assumption)) ?_) | (refine AL.rp rfl rfl (rp_len_own Tryd.underlying9 rfl rfl) ?_) | (refine AL.rp rfl rfl (rp_len_sl Tryd.underlying9 rfl rfl) ?_) | (refine AL.rp rfl rfl (rp_len_nil Tryd.underlying9 rfl rfl) ?_) | (refine AL.rp rfl rfl (rp_len_str Tryd.underlying9 rfl rfl) ?_))
      (first | (refine AL.rp rfl rfl (rp_eqlT rfl rfl rfl (by first | assumption | omega | (dsimp only; omega))) ?_) | (refine AL.rp rfl rfl (rp_eqlF rfl rfl rfl (by first | assumption | omega | (dsimp only; omega))) ?_) | (refine AL.rp rfl rfl (rp_eql rfl rfl rfl) ?_))
      refine AL.rp rfl rfl (rp_move rfl rfl) ?_
      (first | (refine AL.noV rfl rfl rfl rfl ?_) | (refine AL.noU rfl ⟨_, rfl, rfl⟩ rfl ?_) | (refine AL.rpy rfl rfl rfl (rp_move rfl rfl) ?_))
      (first | (refine AL.noV rfl rfl rfl rfl ?_) | (refine AL.noU rfl ⟨_, rfl, rfl⟩ rfl ?_) | (refine AL.rpy rfl rfl rfl (rp_index_str Tryd.underlying9 rfl rfl rfl (by first | rfl | omega) (by assumption)) ?_))
      (first | (refine AL.noV rfl rfl rfl rfl ?_) | (refine AL.noU rfl ⟨_, rfl, rfl⟩ rfl ?_) | (refine AL.rpy rfl rfl rfl (rp_eqlT rfl rfl rfl (by first | assumption | omega | (dsimp only; omega))) ?_) | (refine AL.rpy rfl rfl rfl (rp_eqlF rfl rfl rfl (by first | assumption | omega | (dsimp only; omega))) ?_) | (refine AL.rpy rfl rfl rfl (rp_eql rfl rfl rfl) ?_))
      (first | (refine AL.noV rfl rfl rfl rfl ?_) | (refine AL.noU rfl ⟨_, rfl, rfl⟩ rfl ?_) | (refine AL.rpy rfl rfl rfl (rp_move rfl rfl) ?_))
      (first | (refine AL.noV rfl rfl rfl rfl ?_) | (refine AL.noU rfl ⟨_, rfl, rfl⟩ rfl ?_) | (refine AL.rpy rfl rfl rfl (rp_move rfl rfl) ?_))
      (first | (refine AL.noV rfl rfl rfl rfl ?_) | (refine AL.noU rfl ⟨_, rfl, rfl⟩ rfl ?_) | (refine AL.rpy rfl rfl rfl (rp_len_map Tryd.underlying9 rfl rfl (by assumption)) ?_) | (refine AL.rpy rfl rfl rfl (rp_len_own Tryd.underlying9 rfl rfl) ?_) | (refine AL.rpy rfl rfl rfl (rp_len_sl Tryd.underlying9 rfl rfl) ?_) | (refine AL.rpy rfl rfl rfl (rp_len_nil Tryd.underlying9 rfl rfl) ?_) | (refine AL.rpy rfl rfl rfl (rp_len_str Tryd.underlying9 rfl rfl) ?_))
      (first | (refine AL.noV rfl rfl rfl rfl ?_) | (refine AL.noU rfl ⟨_, rfl, rfl⟩ rfl ?_) | (refine AL.rpy rfl rfl rfl (rp_gtrT rfl rfl rfl (by first | assumption | omega | (dsimp only; omega))) ?_) | (refine AL.rpy rfl rfl rfl (rp_gtrF rfl rfl rfl (by first | assumption | omega | (dsimp only; omega))) ?_) | (refine AL.rpy rfl rfl rfl (rp_gtr rfl rfl rfl) ?_))
      (first | (refine AL.noV rfl rfl rfl rfl ?_) | (refine AL.noU rfl ⟨_, rfl, rfl⟩ rfl ?_) | (refine AL.rpy rfl rfl rfl (rp_pick rfl rfl rfl) ?_))
      refine AL.rp rfl rfl (rp_pick rfl rfl rfl) ?_
      refine AL.nil ?_
      try simp only [thenS, S.put]
      refine AW.condF rfl ?_
      refine AW.skip ?_
      try simp only [thenS]
      refine ⟨_, ?_, rfl⟩
      exact (Less.of rfl (by repeat (first | exact trivial | refine ⟨⟨_, rfl, Wk.refl _⟩, ?_⟩ | refine ⟨⟨_, rfl, Wk.nil _ _⟩, ?_⟩ | refine ⟨⟨_, rfl, Wk.junk _⟩, ?_⟩)) (by repeat (first | exact trivial | refine ⟨rfl, ?_⟩)) rfl)
     ·skip
      refine AW.seq ?_
      refine AW.region ?_
      refine AL.rp rfl rfl (rp_move rfl rfl) ?_
      (first | (refine AL.rp rfl rfl (rp_len_map Tryd.underlying9 rfl rfl (by assumption)) ?_) | (refine AL.rp rfl rfl (rp_len_own Tryd.underlying9 rfl rfl) ?_) | (refine AL.rp rfl rfl (rp_len_sl Tryd.underlying9 rfl rfl) ?_) | (refine AL.rp rfl rfl (rp_len_nil Tryd.underlying9 rfl rfl) ?_) | (refine AL.rp rfl rfl (rp_len_str Tryd.underlying9 rfl rfl) ?_))
      (first | (refine AL.rp rfl rfl (rp_eqlT rfl rfl rfl (by first | assumption | omega | (dsimp only; omega))) ?_) | (refine AL.rp rfl rfl (rp_eqlF rfl rfl rfl (by first | assumption | omega | (dsimp only; omega))) ?_) | (refine AL.rp rfl rfl (rp_eql rfl rfl rfl) ?_))
      refine AL.rp rfl rfl (rp_move rfl rfl) ?_
      (first | (refine AL.noV rfl rfl rfl rfl ?_) | (refine AL.noU rfl ⟨_, rfl, rfl⟩ rfl ?_) | (refine AL.rpy rfl rfl rfl (rp_move rfl rfl) ?_))
      (first | (refine AL.noV rfl rfl rfl rfl ?_) | (refine AL.noU rfl ⟨_, rfl, rfl⟩ rfl ?_) | (refine AL.rpy rfl rfl rfl (rp_index_str Tryd.underlying9 rfl rfl rfl (by first | rfl | omega) (by assumption)) ?_))
      (first | (refine AL.noV rfl rfl rfl rfl ?_) | (refine AL.noU rfl ⟨_, rfl, rfl⟩ rfl ?_) | (refine AL.rpy rfl rfl rfl (rp_eqlT rfl rfl rfl (by first | assumption | omega | (dsimp only; omega))) ?_) | (refine AL.rpy rfl rfl rfl (rp_eqlF rfl rfl rfl (by first | assumption | omega | (dsimp only; omega))) ?_) | (refine AL.rpy rfl rfl rfl (rp_eql rfl rfl rfl) ?_))
      (first | (refine AL.noV rfl rfl rfl rfl ?_) | (refine AL.noU rfl ⟨_, rfl, rfl⟩ rfl ?_) | (refine AL.rpy rfl rfl rfl (rp_move rfl rfl) ?_))
      (first | (refine AL.noV rfl rfl rfl rfl ?_) | (refine AL.noU rfl ⟨_, rfl, rfl⟩ rfl ?_) | (refine AL.rpy rfl rfl rfl (rp_move rfl rfl) ?_))
      (first | (refine AL.noV rfl rfl rfl rfl ?_) | (refine AL.noU rfl ⟨_, rfl, rfl⟩ rfl ?_) | (refine AL.rpy rfl rfl rfl (rp_len_map Tryd.underlying9 rfl rfl (by assumption)) ?_) | (refine AL.rpy rfl rfl rfl (rp_len_own Tryd.underlying9 rfl rfl) ?_) | (refine AL.rpy rfl rfl rfl (rp_len_sl Tryd.underlying9 rfl rfl) ?_) | (refine AL.rpy rfl rfl rfl (rp_len_nil Tryd.underlying9 rfl rfl) ?_) | (refine AL.rpy rfl rfl rfl (rp_len_str Tryd.underlying9 rfl rfl) ?_))
      (first | (refine AL.noV rfl rfl rfl rfl ?_) | (refine AL.noU rfl ⟨_, rfl, rfl⟩ rfl ?_) | (refine AL.rpy rfl rfl rfl (rp_gtrT rfl rfl rfl (by first | assumption | omega | (dsimp only; omega))) ?_) | (refine AL.rpy rfl rfl rfl (rp_gtrF rfl rfl rfl (by first | assumption | omega | (dsimp only; omega))) ?_) | (refine AL.rpy rfl rfl rfl (rp_gtr rfl rfl rfl) ?_))
      (first | (refine AL.noV rfl rfl rfl rfl ?_) | (refine AL.noU rfl ⟨_, rfl, rfl⟩ rfl ?_) | (refine AL.rpy rfl rfl rfl (rp_pick rfl rfl rfl) ?_))
      refine AL.rp rfl rfl (rp_pick rfl rfl rfl) ?_
      refine AL.nil ?_
      try simp only [thenS, S.put]
      refine AW.condF rfl ?_
      refine AW.skip ?_
      try simp only [thenS]
      refine ⟨_, ?_, rfl⟩
      exact (Less.of rfl (by repeat (first | exact trivial | refine ⟨⟨_, rfl, Wk.refl _⟩, ?_⟩ | refine ⟨⟨_, rfl, Wk.nil _ _⟩, ?_⟩ | refine ⟨⟨_, rfl, Wk.junk _⟩, ?_⟩)) (by repeat (first | exact trivial | refine ⟨rfl, ?_⟩)) rfl)
    ·rintro s' rfl
     refine AW.seq ?_
     refine AW.region ?_
     refine AL.rp rfl rfl (rp_assign rfl rfl) ?_
     refine AL.nil ?_
     try simp only [thenS, S.put]
     refine AW.seq ?_
     refine AW.seq ?_
     refine AW.region ?_
     refine AL.rp rfl rfl (rp_assign rfl rfl) ?_
     refine AL.nil ?_
     try simp only [thenS, S.put]
     refine AW.block ?_
     refine AW.loop (fun s' => ∃ k v : Nat, k ≤ n ∧ Lib.decFrom 0 (l.take k) = some v ∧ v < 10 ^ k ∧ s' = ⟨48, [(0, .s str), (1, .i (m : Int)), (5, .i v), (6, .i k)], [], []⟩) (fun s' => n - s'.nat 6) ⟨_, ?_, 0, 0, by omega, rfl, by simp, rfl⟩ ?_
     ·exact (Less.of rfl (by repeat (first | exact trivial | refine ⟨⟨_, rfl, Wk.refl _⟩, ?_⟩ | refine ⟨⟨_, rfl, Wk.nil _ _⟩, ?_⟩ | refine ⟨⟨_, rfl, Wk.junk _⟩, ?_⟩)) (by repeat (first | exact trivial | refine ⟨rfl, ?_⟩)) rfl)
     rintro s' ⟨k, v, hk, hv, hvb, rfl⟩
     have hp12 : (10 : Nat) ^ k ≤ 1000000000000 := by
      have : (10 : Nat) ^ k ≤ 10 ^ 12 := Nat.pow_le_pow_right (by omega) (by omega)
      simpa using this
     by_cases hlt : k < n
     ·obtain ⟨b, hb⟩ : ∃ b, l[k]? = some b := ⟨_, List.getElem?_eq_getElem (by omega)⟩
      have hsb : str.data.toList[k]? = some b := by rw [hl]; exact hb
      by_cases hd : 48 ≤ b.toNat ∧ b.toNat ≤ 57
      ·have hnext := Lib.decFrom_take l k 0 v b _ hv hb (digit_some hd)
       have hp : (10 : Nat) ^ (k + 1) = 10 ^ k * 10 := Nat.pow_succ 10 k
       have hcon := Fn.decT (am_Digit b) hd
       obtain ⟨hd1, hd2⟩ := hd
       refine AW.seq ?_
       refine AW.seq ?_
       refine AW.region ?_
       refine AL.rp rfl rfl (rp_move rfl rfl) ?_
       refine AL.rp rfl rfl (rp_move rfl rfl) ?_
       (first | (refine AL.rp rfl rfl (rp_len_map Tryd.underlying9 rfl rfl (by assumption)) ?_) | (refine AL.rp rfl rfl (rp_len_own Tryd.underlying9 rfl rfl) ?_) | (refine AL.rp rfl rfl (rp_len_sl Tryd.underlying9 rfl rfl) ?_) | (refine AL.rp rfl rfl (rp_len_nil Tryd.underlying9 rfl rfl) ?_) | (refine AL.rp rfl rfl (rp_len_str Tryd.underlying9 rfl rfl) ?_))
       (first | (refine AL.rp rfl rfl (rp_lssT rfl rfl rfl (by first | assumption | omega | (dsimp only; omega))) ?_) | (refine AL.rp rfl rfl (rp_lssF rfl rfl rfl (by first | assumption | omega | (dsimp only; omega))) ?_) | (refine AL.rp rfl rfl (rp_lss rfl rfl rfl) ?_))
       refine AL.nil ?_
       try simp only [thenS, S.put]
       refine AW.condT rfl ?_
       refine AW.skip ?_
       try simp only [thenS]
       refine AW.seq ?_
       refine AW.block ?_
       refine AW.seq ?_
       refine AW.seq ?_
       refine AW.region ?_
       refine AL.rp rfl rfl (rp_move rfl rfl) ?_
       refine AL.rp rfl rfl (rp_move rfl rfl) ?_
       refine AL.rp rfl rfl (rp_index_str Tryd.underlying9 rfl rfl rfl (by first | rfl | omega) (by assumption)) ?_
       refine AL.call (post := ?pc26) rfl (sm_call (args := [_]) ?hc26 ⟨Tryd.func46, rfl, rfl, rfl, rfl⟩ rfl rfl rfl rfl) ?_
       case hc26 => exact hcon
       rintro _ rfl -
       try dsimp only
       refine AL.rp rfl rfl (rp_not rfl rfl) ?_
       refine AL.nil ?_
       try simp only [thenS, S.put, S.newObj, setL, V.cs, List.length_cons, List.length_nil, List.take_succ_cons, List.take_zero, List.drop_succ_cons, List.drop_zero, List.drop_nil, List.nil_append, List.cons_append, List.append_nil, Nat.zero_add, Nat.reduceAdd, List.map_cons, List.map_nil, List.set_cons_zero, List.set_cons_succ]
       refine AW.condF rfl ?_
       refine AW.skip ?_
       try simp only [thenS]
       refine AW.region ?_
       refine AL.rp rfl rfl (rp_move rfl rfl) ?_
       refine AL.rp rfl rfl (rp_mul rfl rfl rfl (by first | omega | (dsimp only; omega))) ?_
       refine AL.rp rfl rfl (rp_move rfl rfl) ?_
       refine AL.rp rfl rfl (rp_move rfl rfl) ?_
       refine AL.rp rfl rfl (rp_index_str Tryd.underlying9 rfl rfl rfl (by first | rfl | omega) (by assumption)) ?_
       refine AL.rp rfl rfl (rp_sub8 rfl rfl rfl (by omega)) ?_
       refine AL.rp rfl rfl (rp_conv Tryd.underlying5 (by intro e h; cases h) (by intro h; cases h) Tryd.underlying3 rfl rfl (r := (b.toNat : Int) - 48) (by first | (rw [wrap8]; omega) | (rw [wrap8]; dsimp only; omega) | (rw [wrap16]; omega) | (rw [wrap64 (by omega)] <;> omega) | (rw [wrapU64 (by omega)] <;> omega))) ?_
       refine AL.rp rfl rfl (rp_addZ (((v * 10 + (b.toNat - 48) : Nat) : Int)) rfl rfl rfl (by omega) (by omega)) ?_
       refine AL.rp rfl rfl (rp_assign rfl rfl) ?_
       refine AL.nil ?_
       try simp only [thenS, S.put]
       refine AW.region ?_
       refine AL.rp rfl rfl (rp_move rfl rfl) ?_
       refine AL.rp rfl rfl (rp_add rfl rfl rfl (by first | omega | (dsimp only; omega))) ?_
       refine AL.rp rfl rfl (rp_assign rfl rfl) ?_
       refine AL.nil ?_
       try simp only [thenS, S.put]
       refine ⟨_, ?_, ⟨k + 1, v * 10 + (b.toNat - 48), by omega, hnext, by omega, rfl⟩, ?_⟩
       ·exact (Less.of rfl (by repeat (first | exact trivial | refine ⟨⟨_, rfl, Wk.refl _⟩, ?_⟩ | refine ⟨⟨_, rfl, Wk.nil _ _⟩, ?_⟩ | refine ⟨⟨_, rfl, Wk.junk _⟩, ?_⟩)) (by repeat (first | exact trivial | refine ⟨rfl, ?_⟩)) rfl)
       ·simp [S.nat, fnd]; omega
      ·have hN := dec_none hb hd
       have hcon := Fn.decF (am_Digit b) hd
       refine AW.seq ?_
       refine AW.seq ?_
       refine AW.region ?_
       refine AL.rp rfl rfl (rp_move rfl rfl) ?_
       refine AL.rp rfl rfl (rp_move rfl rfl) ?_
       (first | (refine AL.rp rfl rfl (rp_len_map Tryd.underlying9 rfl rfl (by assumption)) ?_) | (refine AL.rp rfl rfl (rp_len_own Tryd.underlying9 rfl rfl) ?_) | (refine AL.rp rfl rfl (rp_len_sl Tryd.underlying9 rfl rfl) ?_) | (refine AL.rp rfl rfl (rp_len_nil Tryd.underlying9 rfl rfl) ?_) | (refine AL.rp rfl rfl (rp_len_str Tryd.underlying9 rfl rfl) ?_))
       (first | (refine AL.rp rfl rfl (rp_lssT rfl rfl rfl (by first | assumption | omega | (dsimp only; omega))) ?_) | (refine AL.rp rfl rfl (rp_lssF rfl rfl rfl (by first | assumption | omega | (dsimp only; omega))) ?_) | (refine AL.rp rfl rfl (rp_lss rfl rfl rfl) ?_))
       refine AL.nil ?_
       try simp only [thenS, S.put]
       refine AW.condT rfl ?_
       refine AW.skip ?_
       try simp only [thenS]
       refine AW.seq ?_
       refine AW.block ?_
       refine AW.seq ?_
       refine AW.seq ?_
       refine AW.region ?_
       refine AL.rp rfl rfl (rp_move rfl rfl) ?_
       refine AL.rp rfl rfl (rp_move rfl rfl) ?_
       refine AL.rp rfl rfl (rp_index_str Tryd.underlying9 rfl rfl rfl (by first | rfl | omega) (by assumption)) ?_
       refine AL.call (post := ?pc27) rfl (sm_call (args := [_]) ?hc27 ⟨Tryd.func46, rfl, rfl, rfl, rfl⟩ rfl rfl rfl rfl) ?_
       case hc27 => exact hcon
       rintro _ rfl -
       try dsimp only
       refine AL.rp rfl rfl (rp_not rfl rfl) ?_
       refine AL.nil ?_
       try simp only [thenS, S.put, S.newObj, setL, V.cs, List.length_cons, List.length_nil, List.take_succ_cons, List.take_zero, List.drop_succ_cons, List.drop_zero, List.drop_nil, List.nil_append, List.cons_append, List.append_nil, Nat.zero_add, Nat.reduceAdd, List.map_cons, List.map_nil, List.set_cons_zero, List.set_cons_succ]
       refine AW.condT rfl ?_
       refine AW.seq ?_
       refine AW.region ?_
       refine AL.rp rfl rfl (rp_assign rfl rfl) ?_
       refine AL.nil ?_
       try simp only [thenS, S.put]
       refine AW.ret ?_
       exact ⟨[_], ⟨rfl, trivial⟩, by rw [hN]; rfl, by simp [tupOf, V.pure, V.has, V.hasL]⟩
     ·obtain rfl : k = n := by omega
      rw [List.take_of_length_le (by omega)] at hv
      by_cases hbig : m < v
      ·skip
       refine AW.seq ?_
       refine AW.seq ?_
       refine AW.region ?_
       refine AL.rp rfl rfl (rp_move rfl rfl) ?_
       refine AL.rp rfl rfl (rp_move rfl rfl) ?_
       (first | (refine AL.rp rfl rfl (rp_len_map Tryd.underlying9 rfl rfl (by assumption)) ?_) | (refine AL.rp rfl rfl (rp_len_own Tryd.underlying9 rfl rfl) ?_) | (refine AL.rp rfl rfl (rp_len_sl Tryd.underlying9 rfl rfl) ?_) | (refine AL.rp rfl rfl (rp_len_nil Tryd.underlying9 rfl rfl) ?_) | (refine AL.rp rfl rfl (rp_len_str Tryd.underlying9 rfl rfl) ?_))
       (first | (refine AL.rp rfl rfl (rp_lssT rfl rfl rfl (by first | assumption | omega | (dsimp only; omega))) ?_) | (refine AL.rp rfl rfl (rp_lssF rfl rfl rfl (by first | assumption | omega | (dsimp only; omega))) ?_) | (refine AL.rp rfl rfl (rp_lss rfl rfl rfl) ?_))
       refine AL.nil ?_
       try simp only [thenS, S.put]
       refine AW.condF rfl ?_
       refine AW.exit ?_
       try simp only [thenS, inBlockS, ↓reduceIte, Nat.reduceEqDiff]
       refine AW.seq ?_
       refine AW.seq ?_
       refine AW.region ?_
       refine AL.rp rfl rfl (rp_move rfl rfl) ?_
       refine AL.rp rfl rfl (rp_move rfl rfl) ?_
       (first | (refine AL.rp rfl rfl (rp_gtrT rfl rfl rfl (by first | assumption | omega | (dsimp only; omega))) ?_) | (refine AL.rp rfl rfl (rp_gtrF rfl rfl rfl (by first | assumption | omega | (dsimp only; omega))) ?_) | (refine AL.rp rfl rfl (rp_gtr rfl rfl rfl) ?_))
       refine AL.nil ?_
       try simp only [thenS, S.put]
       refine AW.condT rfl ?_
       refine AW.seq ?_
       refine AW.region ?_
       refine AL.rp rfl rfl (rp_move rfl rfl) ?_
       refine AL.rp rfl rfl (rp_add rfl rfl rfl (by first | omega | (dsimp only; omega))) ?_
       refine AL.rp rfl rfl (rp_assign rfl rfl) ?_
       refine AL.nil ?_
       try simp only [thenS, S.put]
       refine AW.ret ?_
       exact ⟨[_], ⟨rfl, trivial⟩, by rw [hv]; simp only; rw [if_pos hbig]; rfl, by simp [tupOf, V.pure, V.has, V.hasL]⟩
      ·skip
       refine AW.seq ?_
       refine AW.seq ?_
       refine AW.region ?_
       refine AL.rp rfl rfl (rp_move rfl rfl) ?_
       refine AL.rp rfl rfl (rp_move rfl rfl) ?_
       (first | (refine AL.rp rfl rfl (rp_len_map Tryd.underlying9 rfl rfl (by assumption)) ?_) | (refine AL.rp rfl rfl (rp_len_own Tryd.underlying9 rfl rfl) ?_) | (refine AL.rp rfl rfl (rp_len_sl Tryd.underlying9 rfl rfl) ?_) | (refine AL.rp rfl rfl (rp_len_nil Tryd.underlying9 rfl rfl) ?_) | (refine AL.rp rfl rfl (rp_len_str Tryd.underlying9 rfl rfl) ?_))
       (first | (refine AL.rp rfl rfl (rp_lssT rfl rfl rfl (by first | assumption | omega | (dsimp only; omega))) ?_) | (refine AL.rp rfl rfl (rp_lssF rfl rfl rfl (by first | assumption | omega | (dsimp only; omega))) ?_) | (refine AL.rp rfl rfl (rp_lss rfl rfl rfl) ?_))
       refine AL.nil ?_
       try simp only [thenS, S.put]
       refine AW.condF rfl ?_
       refine AW.exit ?_
       try simp only [thenS, inBlockS, ↓reduceIte, Nat.reduceEqDiff]
       refine AW.seq ?_
       refine AW.seq ?_
       refine AW.region ?_
       refine AL.rp rfl rfl (rp_move rfl rfl) ?_
       refine AL.rp rfl rfl (rp_move rfl rfl) ?_
       (first | (refine AL.rp rfl rfl (rp_gtrT rfl rfl rfl (by first | assumption | omega | (dsimp only; omega))) ?_) | (refine AL.rp rfl rfl (rp_gtrF rfl rfl rfl (by first | assumption | omega | (dsimp only; omega))) ?_) | (refine AL.rp rfl rfl (rp_gtr rfl rfl rfl) ?_))
       refine AL.nil ?_
       try simp only [thenS, S.put]
       refine AW.condF rfl ?_
       refine AW.skip ?_
       try simp only [thenS]
       refine AW.seq ?_
       refine AW.region ?_
       refine AL.rp rfl rfl (rp_move rfl rfl) ?_
       refine AL.rp rfl rfl (rp_assign rfl rfl) ?_
       refine AL.nil ?_
       try simp only [thenS, S.put]
       refine AW.ret ?_
       exact ⟨[_], ⟨rfl, trivial⟩, by rw [hv]; simp only; rw [if_neg hbig]; rfl, by simp [tupOf, V.pure, V.has, V.hasL]⟩
end Go.Proofs.YtlgnjehfojogmaaDoor
namespace Go.Proofs.YtlgnjehfojogmaaDoor
open Go.RowKit
set_option linter.unusedSimpArgs false
set_option linter.unusedVariables false

section
variable {K : Type} [DecidableEq K]
def mfind : List (K × Int) → K → Nat → Option (Nat × Int)
  | [], _, _ => none
  | (k, v) :: l, a, i => if a = k then some (i, v) else mfind l a (i + 1)
def mget (l : List (K × Int)) (a : K) : Option Int := (mfind l a 0).map (·.2)
def mput (l : List (K × Int)) (a : K) (v : Int) : List (K × Int) := match mfind l a 0 with
  | some (i, _) => l.set i (a, v)
  | none => l ++ [(a, v)]
theorem mfind_shift (a : K) : ∀ (l : List (K × Int)) (i : Nat), mfind l a i = (mfind l a 0).map fun x => (x.1 + i, x.2)
  | [], i => rfl
  | (k, v) :: l, i => by
    simp only [mfind]
    split
    · simp
    · rw [mfind_shift a l (i + 1), mfind_shift a l (0 + 1), Option.map_map]
      congr 1
      funext x
      simp [Function.comp]; omega
theorem mfind_some {a : K} : ∀ {l : List (K × Int)} {i : Nat} {v : Int}, mfind l a 0 = some (i, v) → l[i]? = some (a, v)
  | [], i, v, h => by simp [mfind] at h
  | (k, u) :: l, i, v, h => by
    simp only [mfind] at h
    split at h
    · rename_i e
      simp only [Option.some.injEq, Prod.mk.injEq] at h
      obtain ⟨rfl, rfl⟩ := h
      simp [e]
    · rw [mfind_shift] at h
      cases h1 : mfind l a 0 with
      | none => rw [h1] at h; cases h
      | some x =>
        rw [h1] at h
        simp only [Option.map_some, Option.some.injEq, Prod.mk.injEq] at h
        obtain ⟨rfl, rfl⟩ := h
        have := mfind_some (v := x.2) (i := x.1) h1
        simpa using this
theorem mget_cons (k : K) (u : Int) (l : List (K × Int)) (a : K) : mget ((k, u) :: l) a = if a = k then some u else mget l a := by
  simp only [mget, mfind]
  split
  · rfl
  · rw [mfind_shift, Option.map_map]; rfl
end

def mrows {K : Type} (enc : K → Value) (l : List (K × Int)) : List (Value × Value) := l.map fun x => (enc x.1, .int .i64 x.2)
/-- How keys are held against each other. -/
structure KeyOk {K : Type} [DecidableEq K] (P : Program) (k : TypeId) (enc : K → Value) : Prop where
  check : ∀ (b : Bool) (a : K) (w : World), (Instr.checkKey b 10000 k (enc a)).run P w = .ok () w
  find : ∀ (l : List (K × Int)) (a : K) (w : World), (Instr.findKey k (enc a) (ments (mrows enc l)).toList).run P w = .ok ((mfind l a 0).map fun x => (x.1, .int .i64 x.2)) w
  same : ∀ a, Instr.sameBits 10000 (enc a) (enc a) = true

theorem run_getMap {P : Program} {w : World} {r : Nat} {es : Array MapEntry} {k : Nat} (hb : w.heap[r]? = some (.map es k)) : (getObj r).run P w = .ok (.map es k) w := by simp [getObj, Sem.run, hb]
theorem run_setMap {P : Program} {w : World} {r : Nat} {es : Array MapEntry} {k : Nat} (o : Obj) (hb : w.heap[r]? = some (.map es k)) : (setObj r o).run P w = .ok () { w with heap := w.heap.setIfInBounds r o } := by simp [setObj, Sem.run, hb]
theorem findNow_int (kd : IntKind) (a : Int) : ∀ (l : List (Int × Int)) (i j : Nat), Instr.findNow (.int kd) (.int .i64 a) ((((l.map fun x => ((Value.int .i64 x.1, Value.int .i64 x.2) : Value × Value)).zipIdx j).map fun x => ({ key := x.1.1, val := x.1.2, born := x.2 } : MapEntry))) i = some ((mfind l a i).map fun x => (x.1, .int .i64 x.2))
  | [], i, j => rfl
  | (k, v) :: l, i, j => by
    simp only [List.map_cons, List.zipIdx_cons, Instr.findNow, Instr.sameNow, if_true, mfind]
    by_cases e : a = k
    · subst e; simp
    · have : (a == k) = false := by simpa using e
      simp only [this, if_neg e]
      exact findNow_int kd a l (i + 1) (j + 1)
theorem KeyOk.int {P : Program} {k : TypeId} {kd : IntKind} (hu : P.underlying k = some (.int kd)) : KeyOk P k (fun a : Int => .int .i64 a) := by
  refine ⟨fun b a w => ?_, fun l a w => ?_, fun a => ?_⟩
  · have : ∀ n : Nat, (Instr.checkKey b (n + 1) k (.int .i64 a)).run P w = .ok () w := fun n => by simp [Instr.checkKey, run_underlying hu]
    exact this 9999
  · have := findNow_int kd a l 0 0
    simp only [Instr.findKey, Sem.run_bind, run_underlying hu, Result.andThen_ok, ments, mrows, List.toList_toArray, this]
    rfl
  · have : ∀ n : Nat, Instr.sameBits n (.int .i64 a) (.int .i64 a) = true := fun n => by cases n <;> simp [Instr.sameBits]
    exact this 10000

theorem ments_push (l : List (Value × Value)) (k v : Value) : (ments l).push { key := k, val := v, born := l.length } = ments (l ++ [(k, v)]) := by
  simp [ments, List.zipIdx_append]
theorem ments_size (l : List (Value × Value)) : (ments l).size = l.length := by simp [ments]
theorem ments_get (l : List (Value × Value)) (i : Nat) : (ments l)[i]? = l[i]?.map fun x => { key := x.1, val := x.2, born := i } := by
  simp [ments, List.getElem?_zipIdx]
  cases l[i]? <;> rfl
theorem ments_modify (l : List (Value × Value)) (i : Nat) (k v : Value) (k0 v0 : Value) (h : l[i]? = some (k0, v0)) : (ments l).modify i (fun e => { e with key := k, val := v }) = ments (l.set i (k, v)) := by
  apply Array.ext_getElem?
  intro j
  rw [Array.getElem?_modify, ments_get, ments_get, List.getElem?_set]
  have hi := (List.getElem?_eq_some_iff.1 h).1
  by_cases e : i = j
  · subst e; simp [h, hi]
  · simp [e]

mutual
/-- Does a value speak of a map? -/
def D.mps : D → Bool
  | .p _ => false
  | .sl _ _ rows => D.mpsR rows
  | .mp _ => true
  | .mm _ => true
def D.mpsL : List D → Bool
  | [] => false
  | d :: l => D.mps d || D.mpsL l
def D.mpsR : List (List D) → Bool
  | [] => false
  | r :: l => D.mpsL r || D.mpsR l
end
mutual
def V.mps : V → Bool
  | .d x => D.mps x
  | .ad l => D.mpsL l
  | .mp _ _ _ => true
  | .mq _ _ _ => true
  | .ifc _ v => V.mps v
  | .mp2 _ _ _ _ _ _ => true
  | .it _ _ _ _ => true
  | .mit _ _ _ _ _ => true
  | .mm _ _ _ => true
  | .blk _ _ _ => true
  | .agg l => V.mpsL l
  | .tup l => V.mpsL l
  | .fn _ l => V.mpsL l
  | _ => false
def V.mpsL : List V → Bool
  | [] => false
  | v :: l => V.mps v || V.mpsL l
end
theorem D.mpsL_false {l : List D} (h : D.mpsL l = false) : ∀ d ∈ l, D.mps d = false := by
  induction l with
  | nil => simp
  | cons x l ih =>
    simp only [D.mpsL, Bool.or_eq_false_iff] at h
    intro d hd
    rcases List.mem_cons.1 hd with rfl | hd
    · exact h.1
    · exact ih h.2 d hd
theorem D.mpsR_false {l : List (List D)} (h : D.mpsR l = false) : ∀ d ∈ l, D.mpsL d = false := by
  induction l with
  | nil => simp
  | cons x l ih =>
    simp only [D.mpsR, Bool.or_eq_false_iff] at h
    intro d hd
    rcases List.mem_cons.1 hd with rfl | hd
    · exact h.1
    · exact ih h.2 d hd
theorem V.mpsL_false {l : List V} : V.mpsL l = false ↔ ∀ d ∈ l, V.mps d = false := by
  induction l with
  | nil => simp [V.mpsL]
  | cons x l ih => simp [V.mpsL, ih]
section
variable {c : Cx} {s : S} {o : Oper} {g : Nat → Nat × Nat} {a : Act} {w : World} {Q : Exit → S → Prop}

theorem DRep.nomap {w w' : World} {q : Nat → Prop} {x : D} {v : Value} (h : DRep w q x v) (hsz : w.heap.size ≤ w'.heap.size) (hc : ∀ (b o : Nat) (u : Value), w.cell? ⟨b, o, none⟩ = some u → w'.cell? ⟨b, o, none⟩ = some u) : x.mps = false → DRep w' q x v := by
  induction h with
  | p x => exact fun _ => .p x
  | sl sz bt rows a cap b o f hcp ha hl h1 hr ih =>
    intro hm
    simp only [D.mps] at hm
    refine .sl sz bt rows a cap b o f hcp (fun hne => ?_) hl (fun i j row u h2 h3 => hc _ _ _ (h1 i j row u h2 h3)) fun i j row u h2 h3 => ih i j row u h2 h3 (D.mpsL_false (D.mpsR_false hm row (List.mem_of_getElem? h2)) u (List.mem_of_getElem? h3))
    obtain ⟨e1, e2, e3⟩ := ha hne
    exact ⟨e1, e2, Nat.lt_of_lt_of_le e3 hsz⟩
  | mp l b hb hm => exact fun h => by simp [D.mps] at h
  | mm => exact fun h => by simp [D.mps] at h
theorem VRep.nomap {w w' : World} {q : Nat → Prop} {g : Nat → Nat × Nat} {x : V} {v : Value} (h : VRep w q g x v) (hsz : w.heap.size ≤ w'.heap.size) (hc : ∀ (b o : Nat) (u : Value), w.cell? ⟨b, o, none⟩ = some u → w'.cell? ⟨b, o, none⟩ = some u) : x.mps = false → VRep w' q g x v := by
  induction h with
  | d x v h => exact fun hm => .d x v (h.nomap hsz hc hm)
  | ad row b o f hb h1 hr => exact fun hm => .ad row b o f ⟨hb.1, Nat.lt_of_lt_of_le hb.2 hsz⟩ (fun j u hu => hc _ _ _ (h1 j u hu)) (fun j u hu => (hr j u hu).nomap hsz hc (D.mpsL_false hm u (List.mem_of_getElem? hu)))
  | ref r o => exact fun _ => .ref r o
  | own r sz n hn hcap => exact fun _ => .own r sz n hn hcap
  | ownNil r sz => exact fun _ => .ownNil r sz
  | que r sz o n a cap hn hcap h => exact fun _ => .que r sz o n a cap hn hcap h
  | agg l cs hlen h ih => exact fun hm => .agg l cs hlen fun j u c h1 h2 => ih j u c h1 h2 (V.mpsL_false.1 hm u (List.mem_of_getElem? h1))
  | tup l cs hlen h ih => exact fun hm => .tup l cs hlen fun j u c h1 h2 => ih j u c h1 h2 (V.mpsL_false.1 hm u (List.mem_of_getElem? h1))
  | fn f l cs hlen h ih => exact fun hm => .fn f l cs hlen fun j u c h1 h2 => ih j u c h1 h2 (V.mpsL_false.1 hm u (List.mem_of_getElem? h1))
  | mp r N l hN hm => exact fun h => by simp [V.mps] at h
  | mq => exact fun h => by simp [V.mps] at h
  | mp2 => exact fun h => by simp [V.mps] at h
  | it => exact fun h => by simp [V.mps] at h
  | mit => exact fun h => by simp [V.mps] at h
  | mm => exact fun h => by simp [V.mps] at h
  | blk => exact fun h => by simp [V.mps] at h
  | ifc t v x h ih => exact fun hm => .ifc t v x (ih (by simpa [V.mps] using hm))
  | junk v => exact fun _ => .junk v

/-- A name that nothing speaks of may stand for anything. -/
theorem Sim.regauge (h : Sim c g s a w) {r : Nat} (hr : s.clean r = true) (p : Nat × Nat) : Sim c (fun k => if k = r then p else g k) s a w := by
  have hfr : ∀ k row', fnd s.H k = some row' → k ≠ r := fun k row' hk => (S.clean_obj hr hk).1
  have hg : ∀ k row', fnd s.H k = some row' → (if k = r then p else g k) = g k := fun k row' hk => if_neg (hfr k row' hk)
  have hq : ∀ b, qt c s.H g b → b < w.heap.size → qt c s.H (fun k => if k = r then p else g k) b := fun b hb _ => ⟨hb.1, fun k row' hk hn => by show (if k = r then p else g k).1 ≠ b; rw [hg k row' hk]; exact hb.2 k row' hk hn⟩
  have hm : ∀ v x, v.has r = false → VRep w (qt c s.H g) g v x → VRep w (qt c s.H (fun k => if k = r then p else g k)) (fun k => if k = r then p else g k) v x := fun v x hv hx => hx.mono Cells.rfl hq fun k hk => by
    have e : k ≠ r := by rintro rfl; rw [hv] at hk; cases hk
    simp [e]
  refine ⟨h.size, h.defers, ?_, h.nul, ?_, ?_, ?_, ?_, h.low, h.below⟩
  · intro i v hv
    obtain ⟨x, h1, h2⟩ := h.tmp i v hv
    exact ⟨x, h1, hm v x (S.clean_tmp hr hv) h2⟩
  · intro k row' hk hn
    obtain ⟨arr, h1, hz, h2⟩ := h.obj k row' hk hn
    simp only [hg k row' hk]
    refine ⟨arr, h1, hz, fun j v hv => ?_⟩
    obtain ⟨x, h3, h4⟩ := h2 j v hv
    exact ⟨x, h3, hm v x ((S.clean_obj hr hk).2 v (List.mem_of_getElem? hv)) h4⟩
  · intro j v x h1 h2
    exact hm v x (S.clean_keep hr h1) (h.keep j v x h1 h2)
  · intro k k' row1 row2 h1 n1 h2 n2 h3
    simp only [hg k row1 h1, hg k' row2 h2] at h3
    exact h.inj k k' _ _ h1 n1 h2 n2 h3
  · intro k row' hk hn
    simp only [hg k row' hk]
    exact h.base k _ hk hn
theorem sm_makeMap (r : Nat) {t : TypeId} (ho : o.op = .makeMap t none) (hr : s.clean r = true) (hd : dok s o = true) : StepM c o s (fun s' => s' = s.put o.dst (.mp r c.w0.heap.size [])) := by
  intro g a w hs K Q hK
  have hb : Below w.heap.size w (w.alloc (.map #[] 0)) := (Below.refl _ _).alloc (Nat.le_refl _) _
  have h1 := (hs.move hb).regauge hr (w.heap.size, 0)
  unfold Oper.wp
  have hexec : (execOp a.eval o).run c.P w = .ok (.value (.map (some w.heap.size))) (w.alloc (.map #[] 0)) := by
    simp [execOp, ho, Instr.makeMap]
  rw [hexec]
  refine hK _ _ _ _ rfl (h1.put o.dst (dok_spec hd) ?_) hb
  have := VRep.mp (w := w.alloc (.map #[] 0)) (q := qt c s.H (fun k => if k = r then (w.heap.size, 0) else g k)) (g := fun k => if k = r then (w.heap.size, 0) else g k) r c.w0.heap.size [] (by simp; exact hs.below.size) (by simp only [if_true]; exact heap_alloc_new w _)
  simpa using this

section
variable {K : Type} [DecidableEq K] {enc : K → Value}
end
section
variable {K : Type} [DecidableEq K] {enc : K → Value}
end
end
abbrev imap (l : List (Int × Int)) : List (Value × Value) := mrows (fun a : Int => Value.int .i64 a) l
section
variable (r : Nat) (l : List (Value × Value))
theorem mpsR_map {α : Type} (f : α → List D) (hf : ∀ x, D.mpsL (f x) = false) : ∀ l : List α, D.mpsR (l.map f) = false
  | [] => rfl
  | x :: l => by rw [List.map_cons, D.mpsR, hf x, mpsR_map f hf l]; rfl
theorem mpsR_ars (l : List Ar) : D.mpsR (l.map arD) = false := mpsR_map _ (fun _ => rfl) l
theorem mpsR_sts (l : List St) : D.mpsR (l.map stD) = false := mpsR_map _ (fun x => by simp [stD, D.mpsL, D.mps, mpsR_ars]) l
end
end Go.Proofs.YtlgnjehfojogmaaDoor
namespace Go.Proofs.YtlgnjehfojogmaaDoor
open Go.RowKit
set_option linter.unusedSimpArgs false
set_option linter.unusedVariables false

theorem ba_beq (a b : ByteArray) : (a == b) = decide (a = b) := by
  cases a with | mk x =>
  cases b with | mk y =>
  show (x == y) = _
  by_cases h : x = y
  · subst h; simp
  · have h2 : ¬ (⟨x⟩ : ByteArray) = ⟨y⟩ := fun e => h (congrArg ByteArray.data e)
    simp [h, h2]
theorem findNow_str (a : ByteArray) : ∀ (l : List (ByteArray × Int)) (i j : Nat), Instr.findNow .string (.string a) ((((l.map fun x => ((Value.string x.1, Value.int .i64 x.2) : Value × Value)).zipIdx j).map fun x => ({ key := x.1.1, val := x.1.2, born := x.2 } : MapEntry))) i = some ((mfind l a i).map fun x => (x.1, .int .i64 x.2))
  | [], i, j => rfl
  | (k, v) :: l, i, j => by
    simp only [List.map_cons, List.zipIdx_cons, Instr.findNow, Instr.sameNow, mfind]
    by_cases e : a = k
    · subst e; simp [ba_beq]
    · have : (a == k) = false := by rw [ba_beq]; simpa using e
      simp only [this, if_neg e]
      exact findNow_str a l (i + 1) (j + 1)
theorem KeyOk.str {P : Program} {k : TypeId} (hu : P.underlying k = some .string) : KeyOk P k (fun a : ByteArray => .string a) := by
  refine ⟨fun b a w => ?_, fun l a w => ?_, fun a => ?_⟩
  · have : ∀ n : Nat, (Instr.checkKey b (n + 1) k (.string a)).run P w = .ok () w := fun n => by simp [Instr.checkKey, run_underlying hu]
    exact this 9999
  · have := findNow_str a l 0 0
    simp only [Instr.findKey, Sem.run_bind, run_underlying hu, Result.andThen_ok, ments, mrows, List.toList_toArray, this]
    rfl
  · have : ∀ n : Nat, Instr.sameBits n (.string a) (.string a) = true := fun n => by cases n <;> simp [Instr.sameBits, ba_beq]
    exact this 10000
abbrev smap (l : List (ByteArray × Int)) : List (Value × Value) := mrows (fun a : ByteArray => Value.string a) l

/-- One of the two maps now holds l; of other maps nothing is said. -/
def upB (y : Bool) (r r' : Nat) (l : List (Value × Value)) : V → V
  | .mp2 x k k' N m m' => if k = r ∧ k' = r' then .mp2 x k k' N (if y then m else l) (if y then l else m') else .junk
  | v => if v.mps then .junk else v
def rowMap (f : V → V) (x : Row) : Row := { x with cells := x.cells.map f }

section
variable {c : Cx} {s : S} {o : Oper} {g : Nat → Nat × Nat} {a : Act} {w : World} {Q : Exit → S → Prop}

theorem Sim.upMap2 (hs : Sim c g s a w) {y : Bool} {r r' : Nat} {l : List (Value × Value)} {es : Array MapEntry} {n0 : Nat} (hb : w.heap[(g (if y then r' else r)).1]? = some (.map es n0)) (hne : (g r).1 ≠ (g r').1) (hN : c.w0.heap.size ≤ (g (if y then r' else r)).1) (hK : V.mpsL s.K = false) :
    Sim c g ⟨s.n, s.T.map (fun x => (x.1, upB y r r' l x.2)), s.H.map (fun x => (x.1, rowMap (upB y r r' l) x.2)), s.K⟩ a { w with heap := w.heap.setIfInBounds (g (if y then r' else r)).1 (.map (ments l) l.length) } := by
  obtain ⟨b, hbb⟩ : ∃ b, b = (g (if y then r' else r)).1 := ⟨_, rfl⟩
  rw [← hbb] at hb hN ⊢
  have hlt : b < w.heap.size := (Array.getElem?_eq_some_iff.1 hb).1
  obtain ⟨w', hw'⟩ : ∃ w', w' = { w with heap := w.heap.setIfInBounds b (.map (ments l) l.length) } := ⟨_, rfl⟩
  have hsz : w'.heap.size = w.heap.size := by rw [hw']; simp
  have hoth : ∀ k, k ≠ b → w'.heap[k]? = w.heap[k]? := fun k hne => by rw [hw']; simp [Array.getElem?_setIfInBounds_ne (Ne.symm hne)]
  have hnew : w'.heap[b]? = some (.map (ments l) l.length) := by rw [hw']; simp [hlt]
  have hc : ∀ (k o : Nat) (u : Value), w.cell? ⟨k, o, none⟩ = some u → w'.cell? ⟨k, o, none⟩ = some u := by
    intro k o u h
    by_cases e : k = b
    · subst e
      simp [World.cell?, hb] at h
    · exact (World.cell?_of_block (w := w) (a := ⟨k, o, none⟩) (hoth k e)).trans h
  have hfn : ∀ k row', fnd (s.H.map (fun x => (x.1, rowMap (upB y r r' l) x.2))) k = some row' → ∃ row, fnd s.H k = some row ∧ row' = rowMap (upB y r r' l) row := by
    intro k row' hk
    rw [fnd_map] at hk
    cases hu : fnd s.H k with
    | none => rw [hu] at hk; cases hk
    | some row => rw [hu] at hk; exact ⟨row, rfl, by simpa using hk.symm⟩
  have hq : ∀ k, qt c s.H g k → k < w'.heap.size → qt c (s.H.map (fun x => (x.1, rowMap (upB y r r' l) x.2))) g k := fun k hk _ => ⟨hk.1, fun j row' hj hn => by
    obtain ⟨row, h1, rfl⟩ := hfn j row' hj
    exact hk.2 j row h1 hn⟩
  have hm : ∀ {v x}, v.mps = false → VRep w (qt c s.H g) g v x → VRep w' (qt c (s.H.map (fun x => (x.1, rowMap (upB y r r' l) x.2))) g) g v x := fun hv h => (h.nomap (by omega) hc hv).mono Cells.rfl hq (fun _ _ => rfl)
  have hup : ∀ {u : V} {x : Value}, VRep w (qt c s.H g) g u x → VRep w' (qt c (s.H.map (fun x => (x.1, rowMap (upB y r r' l) x.2))) g) g (upB y r r' l u) x := by
    intro u x h2
    have hgen : VRep w' (qt c (s.H.map (fun x => (x.1, rowMap (upB y r r' l) x.2))) g) g (if u.mps then .junk else u) x := by
      split
      · exact .junk _
      · rename_i hne; exact hm (by simpa using hne) h2
    cases u with
    | mp2 z k k' N m m' =>
      simp only [upB]
      split
      · rename_i e
        obtain ⟨rfl, rfl⟩ := e
        cases h2 with
        | mp2 _ _ _ _ _ _ k1 k2 k3 k4 k5 =>
          refine .mp2 _ _ _ _ _ _ k1 k2 k3 ?_ ?_
          · cases y
            · simp only [Bool.false_eq_true, if_false] at hbb ⊢
              rw [← hbb]; exact hnew
            · simp only [if_true] at hbb ⊢
              rw [hoth _ (by rw [hbb]; exact hne)]; exact k4
          · cases y
            · simp only [Bool.false_eq_true, if_false] at hbb ⊢
              rw [hoth _ (by rw [hbb]; exact Ne.symm hne)]; exact k5
            · simp only [if_true] at hbb ⊢
              rw [← hbb]; exact hnew
      · exact .junk _
    | mp _ _ _ => exact hgen
    | d _ => exact hgen
    | ad _ => exact hgen
    | ref _ _ => exact hgen
    | own _ _ _ _ => exact hgen
    | que _ _ _ _ => exact hgen
    | agg _ => exact hgen
    | tup _ => exact hgen
    | fn _ _ => exact hgen
    | mq _ _ _ => exact hgen
    | ifc _ _ => exact hgen
    | it _ _ _ _ => exact hgen
    | mit _ _ _ _ _ => exact hgen
    | mm _ _ _ => exact hgen
    | blk _ _ _ => exact hgen
    | junk => exact .junk _
  rw [← hw']
  refine ⟨hs.size, hs.defers, ?_, ?_, ?_, ?_, ?_, ?_, hs.low, ?_⟩
  · intro i v hv
    simp only at hv
    rw [fnd_map] at hv
    cases hu : fnd s.T i with
    | none => rw [hu] at hv; cases hv
    | some u =>
      rw [hu] at hv
      simp only [Option.map_some, Option.some.injEq] at hv
      obtain ⟨x, h1, h2⟩ := hs.tmp i u hu
      subst hv
      exact ⟨x, h1, hup h2⟩
  · intro k row' hk hn
    obtain ⟨row, h1, rfl⟩ := hfn k row' hk
    have := hs.nul k row h1 hn
    simp [rowMap, this]
  · intro k row' hk hn
    obtain ⟨row, h0, rfl⟩ := hfn k row' hk
    obtain ⟨arr, h1, h2, h3⟩ := hs.obj k row h0 hn
    refine ⟨arr, (hoth _ fun e => ?_).trans h1, h2, fun j v hv => ?_⟩
    · rw [e, hb] at h1; cases h1
    · simp only [rowMap, List.getElem?_map] at hv
      cases hu : row.cells[j]? with
      | none => rw [hu] at hv; cases hv
      | some u =>
        rw [hu] at hv
        simp only [Option.map_some, Option.some.injEq] at hv
        obtain ⟨x, h4, h5⟩ := h3 j u hu
        subst hv
        exact ⟨x, h4, hup h5⟩
  · intro j v x h1 h2
    exact hm (V.mpsL_false.1 hK v (List.mem_of_getElem? h1)) (hs.keep j v x h1 h2)
  · intro k k' row1 row2 h1 n1 h2 n2 h3
    obtain ⟨_, h1', rfl⟩ := hfn k row1 h1
    obtain ⟨_, h2', rfl⟩ := hfn k' row2 h2
    exact hs.inj k k' _ _ h1' n1 h2' n2 h3
  · intro k row1 h1 n1
    obtain ⟨_, h1', rfl⟩ := hfn k row1 h1
    exact hs.base k _ h1' n1
  · refine hs.below.trans ⟨by rw [hw'], by rw [hw'], by rw [hw'], by omega, fun k hk => hoth k ?_⟩
    omega

/-- A map, told as one of two. -/
def to2 (z : Bool) (r r' N : Nat) : V → V
  | .mp k M l => if k = (if z then r' else r) ∧ M = N then .mp2 z r r' N (if z then [] else l) (if z then l else []) else .mp k M l
  | v => v
theorem Sim.to2 (hs : Sim c g s a w) {z : Bool} {r r' N : Nat} {n0 : Nat → Nat → Prop} (hne : (g r).1 ≠ (g r').1) (hN : N ≤ (g (if z then r else r')).1) (hm : w.heap[(g (if z then r else r')).1]? = some (.map (ments []) 0)) :
    Sim c g ⟨s.n, s.T.map (fun x => (x.1, Go.Proofs.YtlgnjehfojogmaaDoor.to2 z r r' N x.2)), s.H.map (fun x => (x.1, rowMap (Go.Proofs.YtlgnjehfojogmaaDoor.to2 z r r' N) x.2)), s.K⟩ a w := by
  have hfn : ∀ k row', fnd (s.H.map (fun x => (x.1, rowMap (Go.Proofs.YtlgnjehfojogmaaDoor.to2 z r r' N) x.2))) k = some row' → ∃ row, fnd s.H k = some row ∧ row' = rowMap (Go.Proofs.YtlgnjehfojogmaaDoor.to2 z r r' N) row := by
    intro k row' hk
    rw [fnd_map] at hk
    cases hu : fnd s.H k with
    | none => rw [hu] at hk; cases hk
    | some row => rw [hu] at hk; exact ⟨row, rfl, by simpa using hk.symm⟩
  have hq : ∀ k, qt c s.H g k → k < w.heap.size → qt c (s.H.map (fun x => (x.1, rowMap (Go.Proofs.YtlgnjehfojogmaaDoor.to2 z r r' N) x.2))) g k := fun k hk _ => ⟨hk.1, fun j row' hj hn => by
    obtain ⟨row, h1, rfl⟩ := hfn j row' hj
    exact hk.2 j row h1 hn⟩
  have hm2 : ∀ {v x}, VRep w (qt c s.H g) g v x → VRep w (qt c (s.H.map (fun x => (x.1, rowMap (Go.Proofs.YtlgnjehfojogmaaDoor.to2 z r r' N) x.2))) g) g (Go.Proofs.YtlgnjehfojogmaaDoor.to2 z r r' N v) x := by
    intro v x h
    have h := h.mono Cells.rfl hq (fun _ _ => rfl)
    cases v with
    | mp k M l =>
      show VRep w _ g (if k = (if z then r' else r) ∧ M = N then .mp2 z r r' N (if z then [] else l) (if z then l else []) else .mp k M l) x
      by_cases e : k = (if z then r' else r) ∧ M = N
      · rw [if_pos e]
        obtain ⟨e1, e2⟩ := e
        subst e2
        cases h with
        | mp _ _ _ h1 h2 =>
          rw [e1] at h1 h2 ⊢
          clear e1
          cases z
          · simp only [Bool.false_eq_true, if_false] at h1 h2 hN hm ⊢
            exact .mp2 false r r' _ l [] h1 hN hne h2 hm
          · simp only [if_true] at h1 h2 hN hm ⊢
            exact .mp2 true r r' _ [] l hN h1 hne hm h2
      · rw [if_neg e]
        exact h
    | _ => exact h
  refine ⟨hs.size, hs.defers, ?_, ?_, ?_, ?_, ?_, ?_, hs.low, hs.below⟩
  · intro i v hv
    simp only at hv
    rw [fnd_map] at hv
    cases hu : fnd s.T i with
    | none => rw [hu] at hv; cases hv
    | some u =>
      rw [hu] at hv
      simp only [Option.map_some, Option.some.injEq] at hv
      obtain ⟨x, h1, h2⟩ := hs.tmp i u hu
      subst hv
      exact ⟨x, h1, hm2 h2⟩
  · intro k row' hk hn
    obtain ⟨row, h1, rfl⟩ := hfn k row' hk
    have := hs.nul k row h1 hn
    simp [rowMap, this]
  · intro k row' hk hn
    obtain ⟨row, h0, rfl⟩ := hfn k row' hk
    obtain ⟨arr, h1, h2, h3⟩ := hs.obj k row h0 hn
    refine ⟨arr, h1, h2, fun j v hv => ?_⟩
    simp only [rowMap, List.getElem?_map] at hv
    cases hu : row.cells[j]? with
    | none => rw [hu] at hv; cases hv
    | some u =>
      rw [hu] at hv
      simp only [Option.map_some, Option.some.injEq] at hv
      obtain ⟨x, h4, h5⟩ := h3 j u hu
      subst hv
      exact ⟨x, h4, hm2 h5⟩
  · intro j v x h1 h2
    exact (hs.keep j v x h1 h2).mono Cells.rfl hq (fun _ _ => rfl)
  · intro k k' row1 row2 h1 n1 h2 n2 h3
    obtain ⟨_, h1', rfl⟩ := hfn k row1 h1
    obtain ⟨_, h2', rfl⟩ := hfn k' row2 h2
    exact hs.inj k k' _ _ h1' n1 h2' n2 h3
  · intro k row1 h1 n1
    obtain ⟨_, h1', rfl⟩ := hfn k row1 h1
    exact hs.base k _ h1' n1

/-- A second map beside a first one, which some slot holds: z tells which of the two is the elder one. -/
theorem sm_makeMap2 (z : Bool) (d1 r r' : Nat) {t : TypeId} {l : List (Value × Value)} {N : Nat} (ho : o.op = .makeMap t none) (hr : s.clean (if z then r else r') = true) (hd : dok s o = true) (h1 : fnd s.T d1 = some (.mp (if z then r' else r) N l)) (hN : N = c.w0.heap.size) :
    StepM c o s (fun s' => s' = S.put ⟨s.n, s.T.map (fun x => (x.1, to2 z r r' N x.2)), s.H.map (fun x => (x.1, rowMap (to2 z r r' N) x.2)), s.K⟩ o.dst (.mp2 (!z) r r' N (if z then [] else l) (if z then l else []))) := by
  subst hN
  intro g a w hs K Q hK
  have hb : Below w.heap.size w (w.alloc (.map #[] 0)) := (Below.refl _ _).alloc (Nat.le_refl _) _
  have hrr : (if z then r' else r) ≠ (if z then r else r') := by
    intro e
    have := S.clean_tmp hr h1
    simp [V.has, e] at this
  have hs1 := (hs.move hb).regauge hr (w.heap.size, 0)
  obtain ⟨g1, hg1⟩ : ∃ g1 : Nat → Nat × Nat, g1 = fun k => if k = (if z then r else r') then (w.heap.size, 0) else g k := ⟨_, rfl⟩
  rw [← hg1] at hs1
  obtain ⟨x, k1, k2⟩ := hs.tmp d1 _ h1
  cases k2 with
  | mp _ _ _ hN1 hm1 =>
    have hlt : (g (if z then r' else r)).1 < w.heap.size := (Array.getElem?_eq_some_iff.1 hm1).1
    have hm1' : (w.alloc (.map #[] 0)).heap[(g (if z then r' else r)).1]? = some (.map (ments l) l.length) := (hb.block _ hlt).trans hm1
    have hnew : (w.alloc (.map #[] 0)).heap[w.heap.size]? = some (.map (ments []) 0) := heap_alloc_new w _
    have e1 : g1 (if z then r else r') = (w.heap.size, 0) := by rw [hg1]; simp
    have e2 : g1 (if z then r' else r) = g (if z then r' else r) := by rw [hg1]; simp only [if_neg hrr]
    have hsz := hs.below.size
    have hs2 := hs1.to2 (n0 := fun _ _ => True) (z := z) (r := r) (r' := r') (N := c.w0.heap.size) (by
      cases z
      · simp only [Bool.false_eq_true, if_false] at e1 e2 hlt
        rw [e1, e2]; simp only; omega
      · simp only [if_true] at e1 e2 hlt
        rw [e1, e2]; simp only; omega) (by rw [e1]; exact hsz) (by rw [e1]; exact hnew)
    unfold Oper.wp
    have hexec : (execOp a.eval o).run c.P w = .ok (.value (.map (some w.heap.size))) (w.alloc (.map #[] 0)) := by
      simp [execOp, ho, Instr.makeMap]
    rw [hexec]
    refine hK g1 _ _ _ rfl (hs2.put o.dst (dok_spec (s := s) hd) ?_) hb
    cases z
    · simp only [Bool.false_eq_true, if_false, Bool.not_false] at e1 e2 hlt hm1' hN1 ⊢
      have := VRep.mp2 (w := w.alloc (.map #[] 0)) (q := qt c (s.H.map (fun x => (x.1, rowMap (Go.Proofs.YtlgnjehfojogmaaDoor.to2 false r r' c.w0.heap.size) x.2))) g1) (g := g1) true r r' c.w0.heap.size l [] (by rw [e2]; exact hN1) (by rw [e1]; exact hsz) (by rw [e1, e2]; simp only; omega) (by rw [e2]; exact hm1') (by rw [e1]; exact hnew)
      simpa only [if_true, e1] using this
    · simp only [if_true, Bool.not_true] at e1 e2 hlt hm1' hN1 ⊢
      have := VRep.mp2 (w := w.alloc (.map #[] 0)) (q := qt c (s.H.map (fun x => (x.1, rowMap (Go.Proofs.YtlgnjehfojogmaaDoor.to2 true r r' c.w0.heap.size) x.2))) g1) (g := g1) false r r' c.w0.heap.size [] l (by rw [e1]; exact hsz) (by rw [e2]; exact hN1) (by rw [e1, e2]; simp only; omega) (by rw [e1]; exact hnew) (by rw [e2]; exact hm1')
      simpa only [Bool.false_eq_true, if_false, e1] using this

section
variable {K : Type} [DecidableEq K] {enc : K → Value}
theorem st_mapUpdate2 {t k e : TypeId} {x y z : Operand} {yy : Bool} {r r' N : Nat} {m m' : List (Value × Value)} {l : List (K × Int)} {key : K} {v : Int} (hk : KeyOk c.P k enc) (hu : c.P.underlying t = some (.map k e)) (ho : o.op = .mapUpdate t x y z) (hd : o.dst = none) (hx : s.ev x = some (.mp2 yy r r' N m m')) (hl : (if yy then m' else m) = mrows enc l) (hy : ∀ g a w, Sim c g s a w → a.eval y = enc key) (hz : s.ev z = some (.i v))
    (hN : N = c.w0.heap.size) (hK : V.mpsL s.K = false) : Step c o s (fun s' => s' = ⟨s.n, s.T.map (fun x => (x.1, upB yy r r' (mrows enc (mput l key v)) x.2)), s.H.map (fun x => (x.1, rowMap (upB yy r r' (mrows enc (mput l key v))) x.2)), s.K⟩) := by
  subst hN
  intro g a w hs K' Q hK'
  have hx' : a.eval x = .map (some (g (if yy then r' else r)).1) ∧ (g r).1 ≠ (g r').1 ∧ c.w0.heap.size ≤ (g (if yy then r' else r)).1 ∧ w.heap[(g (if yy then r' else r)).1]? = some (.map (ments (mrows enc l)) (mrows enc l).length) := by
    have h := hs.ev hx
    generalize a.eval x = u at h
    rw [← hl]
    cases h with
    | mp2 _ _ _ _ _ _ k1 k2 k3 k4 k5 =>
      refine ⟨rfl, k3, ?_, ?_⟩
      · cases yy
        · exact k1
        · exact k2
      · cases yy
        · exact k4
        · exact k5
  obtain ⟨hxe, hne, hNb, hm⟩ := hx'
  obtain ⟨b, hbb⟩ : ∃ b, b = (g (if yy then r' else r)).1 := ⟨_, rfl⟩
  have hrun : (Instr.mapUpdate t (.map (some b)) (enc key) (.int .i64 v)).run c.P w = .ok () { w with heap := w.heap.setIfInBounds b (.map (ments (mrows enc (mput l key v))) (mrows enc (mput l key v)).length) } := by
    rw [← hbb] at hm
    simp only [Instr.mapUpdate, Sem.run_bind, run_underlying hu, Result.andThen_ok, run_getMap hm, hk.check, hk.find]
    unfold mput
    cases h : mfind l key 0 with
    | none =>
      simp only [Option.map_none, run_setMap _ hm, ments_push]
      simp [mrows]
    | some p =>
      obtain ⟨i, v0⟩ := p
      have hget : (mrows enc l)[i]? = some (enc key, .int .i64 v0) := by simp [mrows, mfind_some h]
      have hk0 : (((ments (mrows enc l))[i]?).map (·.key)).getD (enc key) = enc key := by rw [ments_get, hget]; rfl
      simp only [Option.map_some, hk0, Instr.keyThatStays, hk.same, if_true, Sem.run_bind, Sem.run_pure, Result.andThen_ok, run_setMap _ hm, ments_modify _ _ _ _ _ _ hget]
      simp [mrows, List.map_set]
  unfold Oper.wp
  have hexec : (execOp a.eval o).run c.P w = .ok .skip { w with heap := w.heap.setIfInBounds b (.map (ments (mrows enc (mput l key v))) (mrows enc (mput l key v)).length) } := by
    rw [← hbb] at hxe
    simp only [execOp, ho, hxe, hy g a w hs, VRep.p_eq (hs.ev hz), Sem.run_bind, hrun, Result.andThen_ok]
    rfl
  rw [hexec]
  simp only [Oper.upon, hd, Act.put]
  rw [hbb]
  exact hK' g _ a _ rfl (hs.upMap2 hm hne hNb hK)
end

/-- Two maps that are not written to any more. -/
def frz2 (N : Nat) : V → V
  | .mp2 x _ _ k m m' => if k = N then .d (.mp (if x then m' else m)) else .junk
  | v => v
theorem VRep.frz2 {v : V} {x : Value} {q : Nat → Prop} (h : VRep w q g v x) {N : Nat} (hq : ∀ b es n, w.heap[b]? = some (.map es n) → N ≤ b → q b) : VRep w q g (Go.Proofs.YtlgnjehfojogmaaDoor.frz2 N v) x := by
  cases v with
  | mp2 z r r' k m m' =>
    simp only [Go.Proofs.YtlgnjehfojogmaaDoor.frz2]
    split
    · rename_i e
      subst e
      cases h with
      | mp2 _ _ _ _ _ _ k1 k2 k3 k4 k5 =>
        cases z
        · exact .d _ _ (.mp m _ ⟨hq _ _ _ k4 k1, (Array.getElem?_eq_some_iff.1 k4).1⟩ k4)
        · exact .d _ _ (.mp m' _ ⟨hq _ _ _ k5 k2, (Array.getElem?_eq_some_iff.1 k5).1⟩ k5)
    · exact .junk _
  | _ => exact h
theorem Sim.frz2 (hs : Sim c g s a w) {N : Nat} (hN : c.w0.heap.size ≤ N) : Sim c g ⟨s.n, s.T.map (fun x => (x.1, Go.Proofs.YtlgnjehfojogmaaDoor.frz2 N x.2)), s.H.map (fun x => (x.1, rowMap (Go.Proofs.YtlgnjehfojogmaaDoor.frz2 N) x.2)), s.K⟩ a w := by
  have hfn : ∀ k row', fnd (s.H.map (fun x => (x.1, rowMap (Go.Proofs.YtlgnjehfojogmaaDoor.frz2 N) x.2))) k = some row' → ∃ row, fnd s.H k = some row ∧ row' = rowMap (Go.Proofs.YtlgnjehfojogmaaDoor.frz2 N) row := by
    intro k row' hk
    rw [fnd_map] at hk
    cases hu : fnd s.H k with
    | none => rw [hu] at hk; cases hk
    | some row => rw [hu] at hk; exact ⟨row, rfl, by simpa using hk.symm⟩
  have hq : ∀ k, qt c s.H g k → k < w.heap.size → qt c (s.H.map (fun x => (x.1, rowMap (Go.Proofs.YtlgnjehfojogmaaDoor.frz2 N) x.2))) g k := fun k hk _ => ⟨hk.1, fun j row' hj hn => by
    obtain ⟨row, h1, rfl⟩ := hfn j row' hj
    exact hk.2 j row h1 hn⟩
  have hmq : ∀ b es n, w.heap[b]? = some (.map es n) → N ≤ b → qt c (s.H.map (fun x => (x.1, rowMap (Go.Proofs.YtlgnjehfojogmaaDoor.frz2 N) x.2))) g b := by
    intro b es n hb hN'
    refine ⟨fun ho => ?_, fun k row' hk hn e => ?_⟩
    · have := hs.low _ ho
      omega
    · obtain ⟨row, h1, rfl⟩ := hfn k row' hk
      obtain ⟨arr, h3, _⟩ := hs.obj k row h1 hn
      rw [e, hb] at h3
      cases h3
  have hm : ∀ {v x}, VRep w (qt c s.H g) g v x → VRep w (qt c (s.H.map (fun x => (x.1, rowMap (Go.Proofs.YtlgnjehfojogmaaDoor.frz2 N) x.2))) g) g v x := fun h => h.mono Cells.rfl hq (fun _ _ => rfl)
  refine ⟨hs.size, hs.defers, ?_, ?_, ?_, ?_, ?_, ?_, hs.low, hs.below⟩
  · intro i v hv
    simp only at hv
    rw [fnd_map] at hv
    cases hu : fnd s.T i with
    | none => rw [hu] at hv; cases hv
    | some u =>
      rw [hu] at hv
      simp only [Option.map_some, Option.some.injEq] at hv
      obtain ⟨x, h1, h2⟩ := hs.tmp i u hu
      subst hv
      exact ⟨x, h1, (hm h2).frz2 hmq⟩
  · intro k row' hk hn
    obtain ⟨row, h1, rfl⟩ := hfn k row' hk
    have := hs.nul k row h1 hn
    simp [rowMap, this]
  · intro k row' hk hn
    obtain ⟨row, h0, rfl⟩ := hfn k row' hk
    obtain ⟨arr, h1, h2, h3⟩ := hs.obj k row h0 hn
    refine ⟨arr, h1, h2, fun j v hv => ?_⟩
    simp only [rowMap, List.getElem?_map] at hv
    cases hu : row.cells[j]? with
    | none => rw [hu] at hv; cases hv
    | some u =>
      rw [hu] at hv
      simp only [Option.map_some, Option.some.injEq] at hv
      obtain ⟨x, h4, h5⟩ := h3 j u hu
      subst hv
      exact ⟨x, h4, (hm h5).frz2 hmq⟩
  · intro j v x h1 h2
    exact hm (hs.keep j v x h1 h2)
  · intro k k' row1 row2 h1 n1 h2 n2 h3
    obtain ⟨_, h1', rfl⟩ := hfn k row1 h1
    obtain ⟨_, h2', rfl⟩ := hfn k' row2 h2
    exact hs.inj k k' _ _ h1' n1 h2' n2 h3
  · intro k row1 h1 n1
    obtain ⟨_, h1', rfl⟩ := hfn k row1 h1
    exact hs.base k _ h1' n1
end
section
variable (y : Bool) (r r' : Nat) (l : List (Value × Value))
theorem to2_d (N : Nat) (x : D) : to2 y r r' N (.d x) = .d x := rfl
theorem to2_ref (N a b : Nat) : to2 y r r' N (.ref a b) = .ref a b := rfl
theorem to2_own (N a b n : Nat) (z : Bool) : to2 y r r' N (.own a b n z) = .own a b n z := rfl
theorem to2_junk (N : Nat) : to2 y r r' N .junk = .junk := rfl
theorem to2_F (N : Nat) (l : List (Value × Value)) : to2 false r r' N (.mp r N l) = .mp2 false r r' N l [] := by simp [to2]
theorem to2_T (N : Nat) (l : List (Value × Value)) : to2 true r r' N (.mp r' N l) = .mp2 true r r' N [] l := by simp [to2]
theorem upB_p (x : Value) : upB y r r' l (.d (.p x)) = .d (.p x) := rfl
theorem upB_sl (sz bt : Nat) (rows : List (List D)) (h : D.mpsR rows = false) : upB y r r' l (.d (.sl sz bt rows)) = .d (.sl sz bt rows) := by simp [upB, V.mps, D.mps, h]
theorem upB_ref (a b : Nat) : upB y r r' l (.ref a b) = .ref a b := rfl
theorem upB_own (a b n : Nat) (z : Bool) : upB y r r' l (.own a b n z) = .own a b n z := rfl
theorem upB_junk : upB y r r' l .junk = .junk := rfl
theorem upB_tup (x : Value) (z : Value) : upB y r r' l (.tup [.d (.p x), .d (.p z)]) = .tup [.d (.p x), .d (.p z)] := rfl
theorem upB_agg2 (x : Value) (z : Value) : upB y r r' l (.agg [.d (.p x), .d (.p z)]) = .agg [.d (.p x), .d (.p z)] := rfl
theorem upB_F (x : Bool) (N : Nat) (m m' : List (Value × Value)) : upB false r r' l (.mp2 x r r' N m m') = .mp2 x r r' N l m' := by simp [upB]
theorem upB_T (x : Bool) (N : Nat) (m m' : List (Value × Value)) : upB true r r' l (.mp2 x r r' N m m') = .mp2 x r r' N m l := by simp [upB]
end
section
variable {c : Cx} {s : S} {o : Oper}
theorem rd_len_map {x : Operand} {t : TypeId} {k e : TypeId} {l : List (Value × Value)} (hu : c.P.underlying t = some (.map k e)) (ho : o.op = .call { callee := .builtin .len, args := #[x], argTypes := #[t] }) (hx : s.ev x = some (.d (.mp l))) : RD c o s (.i (l.length : Int)) := fun g a w hs => by
  have hx' : ∃ b, a.eval x = .map (some b) ∧ w.heap[b]? = some (.map (ments l) l.length) := by
    have h := hs.ev hx
    generalize a.eval x = u at h
    cases h with
    | d _ _ h =>
      cases h with
      | mp _ b hq hm => exact ⟨b, rfl, hm⟩
  obtain ⟨b, hxe, hm⟩ := hx'
  refine ⟨.int .i64 (l.length : Int), .d _ _ (.p _), fun w' hb => exec_len ho ?_⟩
  have hm' : w'.heap[b]? = some (.map (ments l) l.length) := (hb.block _ (Array.getElem?_eq_some_iff.1 hm).1).trans hm
  rw [hxe]
  simp [Builtin.len_, run_underlying hu, run_getMap hm', ments_size]
end
end Go.Proofs.YtlgnjehfojogmaaDoor
namespace Go.Proofs.YtlgnjehfojogmaaDoor
open Go.RowKit
set_option linter.unusedSimpArgs false
set_option linter.unusedVariables false
set_option maxRecDepth 100000

structure Nm where
  t : ByteArray
  b : Int
deriving DecidableEq
instance : Inhabited Nm := ⟨⟨⟨#[]⟩, 0⟩⟩
def nmD (x : Nm) : List D := [.p (.string x.t), .p (.int .i64 x.b)]
def nmsD (l : List Nm) : D := .sl 2 24 (l.map nmD)

def chLet (b : UInt8) : Prop := (97 ≤ b.toNat ∧ b.toNat ≤ 122) ∨ b.toNat = 95
def chDig (b : UInt8) : Prop := 48 ≤ b.toNat ∧ b.toNat ≤ 57
def nmP (l : List UInt8) : Prop := 1 ≤ l.length ∧ l.length ≤ 12 ∧ ∀ (k : Nat) (b : UInt8), l[k]? = some b → chLet b ∨ (chDig b ∧ 0 < k)
open Classical in
noncomputable def nmB (l : List UInt8) : Bool := decide (nmP l)
theorem nmB_true {l : List UInt8} (h : nmP l) : nmB l = true := by simp [nmB, h]
theorem nmB_false {l : List UInt8} (h : ¬ nmP l) : nmB l = false := by simp [nmB, h]

def dupP (l : List Nm) (n : Nat) : Prop := ∃ (i j : Nat) (x y : Nm), j < i ∧ i < n ∧ l[i]? = some x ∧ l[j]? = some y ∧ (x.t = y.t ∨ x.b = y.b)
def labP (l : List Nm) (n : Nat) : Prop := ∀ (i : Nat) (x : Nm), i < n → l[i]? = some x → 1 ≤ x.b ∧ x.b ≤ 1000
def txtP (l : List Nm) (n : Nat) : Prop := ∀ (i : Nat) (x : Nm), i < n → l[i]? = some x → nmB x.t.data.toList = true
open Classical in
noncomputable def nmF (l : List Nm) : Int := if 100 < l.length then 1 else if ¬ labP l l.length then 2 else if ¬ txtP l l.length then 9 else if dupP l l.length then 10 else 0
theorem nmF_size {l : List Nm} (h : 100 < l.length) : nmF l = 1 := by unfold nmF; rw [if_pos h]
theorem nmF_lab {l : List Nm} (h : ¬ 100 < l.length) (h1 : ¬ labP l l.length) : nmF l = 2 := by unfold nmF; rw [if_neg h, if_pos h1]
theorem nmF_txt {l : List Nm} (h : ¬ 100 < l.length) (h1 : labP l l.length) (h2 : ¬ txtP l l.length) : nmF l = 9 := by unfold nmF; rw [if_neg h, if_neg (not_not_intro h1), if_pos h2]
theorem nmF_dup {l : List Nm} (h : ¬ 100 < l.length) (h1 : labP l l.length) (h2 : txtP l l.length) (h3 : dupP l l.length) : nmF l = 10 := by unfold nmF; rw [if_neg h, if_neg (not_not_intro h1), if_neg (not_not_intro h2), if_pos h3]
theorem nmF_ok {l : List Nm} (h : ¬ 100 < l.length) (h1 : labP l l.length) (h2 : txtP l l.length) (h3 : ¬ dupP l l.length) : nmF l = 0 := by unfold nmF; rw [if_neg h, if_neg (not_not_intro h1), if_neg (not_not_intro h2), if_neg h3]
theorem nmF_0 {l : List Nm} (h : nmF l = 0) : ¬ 100 < l.length ∧ labP l l.length ∧ txtP l l.length ∧ ¬ dupP l l.length := by
  unfold nmF at h
  split at h
  · omega
  split at h
  · omega
  split at h
  · omega
  split at h
  · omega
  rename_i h1 h2 h3 h4
  exact ⟨h1, Classical.not_not.1 h2, Classical.not_not.1 h3, h4⟩
theorem labP_snoc {l : List Nm} {k : Nat} {x : Nm} (h : labP l k) (hx : l[k]? = some x) (h1 : 1 ≤ x.b ∧ x.b ≤ 1000) : labP l (k + 1) := by
  intro i y hi hy
  by_cases e : i = k
  · subst e
    rw [hx] at hy
    cases hy
    exact h1
  · exact h i y (by omega) hy
theorem txtP_snoc {l : List Nm} {k : Nat} {x : Nm} (h : txtP l k) (hx : l[k]? = some x) (h1 : nmB x.t.data.toList = true) : txtP l (k + 1) := by
  intro i y hi hy
  by_cases e : i = k
  · subst e
    rw [hx] at hy
    cases hy
    exact h1
  · exact h i y (by omega) hy
theorem labP_not {l : List Nm} {k : Nat} {x : Nm} (hx : l[k]? = some x) (h1 : ¬ (1 ≤ x.b ∧ x.b ≤ 1000)) : ¬ labP l l.length := fun h => h1 (h k x (List.getElem?_eq_some_iff.1 hx).1 hx)
theorem txtP_not {l : List Nm} {k : Nat} {x : Nm} (hx : l[k]? = some x) (h1 : nmB x.t.data.toList = false) : ¬ txtP l l.length := fun h => by rw [h k x (List.getElem?_eq_some_iff.1 hx).1 hx] at h1; cases h1
theorem dupP_snoc {l : List Nm} {k : Nat} {x : Nm} (h : ¬ dupP l k) (hx : l[k]? = some x) (h1 : ∀ (j : Nat) (y : Nm), j < k → l[j]? = some y → x.t ≠ y.t ∧ x.b ≠ y.b) : ¬ dupP l (k + 1) := by
  rintro ⟨i, j, u, v, h2, h3, h4, h5, h6⟩
  by_cases e : i = k
  · subst e
    rw [hx] at h4
    cases h4
    have := h1 j v h2 h5
    rcases h6 with h6 | h6
    · exact this.1 h6
    · exact this.2 h6
  · exact h ⟨i, j, u, v, h2, by omega, h4, h5, h6⟩
theorem dupP_get {l : List Nm} {i j : Nat} {x y : Nm} (hji : j < i) (hx : l[i]? = some x) (hy : l[j]? = some y) (h : x.t = y.t ∨ x.b = y.b) : dupP l l.length := ⟨i, j, x, y, hji, (List.getElem?_eq_some_iff.1 hx).1, hx, hy, h⟩

section
variable {K : Type} [DecidableEq K]
theorem mget_mput (a : K) (v : Int) (b : K) : ∀ l : List (K × Int), mget (mput l a v) b = if b = a then some v else mget l b
  | [] => by simp [mput, mfind, mget_cons, mget]
  | (k, u) :: l => by
    have ih := mget_mput a v b l
    by_cases e : a = k
    · subst e
      have h0 : mput ((a, u) :: l) a v = (a, v) :: l := by simp [mput, mfind]
      rw [h0, mget_cons, mget_cons]
      split <;> rfl
    · have h0 : mput ((k, u) :: l) a v = (k, u) :: mput l a v := by
        unfold mput
        simp only [mfind, if_neg e]
        rw [mfind_shift]
        cases h : mfind l a 0 with
        | none => simp
        | some p => simp
      rw [h0, mget_cons, mget_cons, ih]
      by_cases e2 : b = k
      · rw [if_pos e2, if_pos e2, if_neg (fun h => e (h.symm.trans e2))]
      · rw [if_neg e2, if_neg e2]
theorem mput_len (a : K) (v : Int) (l : List (K × Int)) : (mput l a v).length = if mget l a = none then l.length + 1 else l.length := by
  unfold mput mget
  cases h : mfind l a 0 with
  | none => simp
  | some p => simp

/-- The index of a table: each key stands for the last place where it is found. -/
def bldM (f : Nm → K) (l : List Nm) : Nat → List (K × Int)
  | 0 => []
  | n + 1 => match l[n]? with
    | some x => mput (bldM f l n) (f x) n
    | none => bldM f l n
theorem bldM_snoc {f : Nm → K} {l : List Nm} {k : Nat} {x : Nm} (hx : l[k]? = some x) : bldM f l (k + 1) = mput (bldM f l k) (f x) k := by simp only [bldM, hx]
theorem bldM_some {f : Nm → K} {l : List Nm} {a : K} {v : Int} : ∀ n, mget (bldM f l n) a = some v → ∃ (j : Nat) (x : Nm), j < n ∧ v = j ∧ l[j]? = some x ∧ f x = a
  | 0, h => by simp [bldM, mget, mfind] at h
  | n + 1, h => by
    cases hx : l[n]? with
    | none =>
      simp only [bldM, hx] at h
      obtain ⟨j, x, h1, h2⟩ := bldM_some n h
      exact ⟨j, x, by omega, h2⟩
    | some x =>
      rw [bldM_snoc hx, mget_mput] at h
      split at h
      · rename_i e
        simp only [Option.some.injEq] at h
        exact ⟨n, x, by omega, h.symm, hx, e.symm⟩
      · obtain ⟨j, x, h1, h2⟩ := bldM_some n h
        exact ⟨j, x, by omega, h2⟩
theorem bldM_none {f : Nm → K} {l : List Nm} {a : K} : ∀ n, mget (bldM f l n) a = none → ∀ (j : Nat) (x : Nm), j < n → l[j]? = some x → f x ≠ a
  | 0, _, j, x, hj, _ => by omega
  | n + 1, h, j, x, hj, hx => by
    cases hy : l[n]? with
    | none =>
      simp only [bldM, hy] at h
      by_cases e : j = n
      · subst e; rw [hx] at hy; cases hy
      · exact bldM_none n h j x (by omega) hx
    | some y =>
      rw [bldM_snoc hy, mget_mput] at h
      split at h
      · cases h
      · rename_i e
        by_cases e2 : j = n
        · subst e2
          rw [hx] at hy
          cases hy
          exact fun h => e h.symm
        · exact bldM_none n h j x (by omega) hx
/-- The index is as long as the table if no key stands there twice, else shorter. -/
theorem bldM_len {f : Nm → K} {l : List Nm} : ∀ n, n ≤ l.length → (bldM f l n).length ≤ n ∧ ((bldM f l n).length = n ↔ ∀ (i j : Nat) (x y : Nm), j < i → i < n → l[i]? = some x → l[j]? = some y → f x ≠ f y)
  | 0, _ => ⟨by simp [bldM], by simp [bldM]⟩
  | n + 1, hn => by
    obtain ⟨h1, h2⟩ := bldM_len (f := f) (l := l) n (by omega)
    obtain ⟨x, hx⟩ : ∃ x, l[n]? = some x := ⟨_, List.getElem?_eq_getElem (by omega)⟩
    rw [bldM_snoc hx, mput_len]
    cases hg : mget (bldM f l n) (f x) with
    | none =>
      rw [if_pos rfl]
      refine ⟨by omega, ?_⟩
      have hno := bldM_none n hg
      constructor
      · intro h i j u v hji hi hu hv
        by_cases e : i = n
        · subst e
          rw [hx] at hu
          cases hu
          exact Ne.symm (hno j v hji hv)
        · exact h2.1 (by omega) i j u v hji (by omega) hu hv
      · intro h
        have := h2.2 fun i j u v hji hi hu hv => h i j u v hji (by omega) hu hv
        omega
    | some v =>
      rw [if_neg (by simp)]
      refine ⟨by omega, ?_⟩
      obtain ⟨j, y, hj, _, hy, he⟩ := bldM_some n hg
      constructor
      · intro h; omega
      · intro h
        exact absurd he.symm (h n j x y hj (by omega) hx hy)
end
theorem nms_dup {l : List Nm} : ((bldM Nm.t l l.length).length < l.length ∨ (bldM Nm.b l l.length).length < l.length) ↔ dupP l l.length := by
  obtain ⟨h1, h2⟩ := bldM_len (f := Nm.t) (l := l) l.length (Nat.le_refl _)
  obtain ⟨h3, h4⟩ := bldM_len (f := Nm.b) (l := l) l.length (Nat.le_refl _)
  constructor
  · intro h
    refine Classical.byContradiction fun hd => ?_
    have e1 := h2.2 fun i j x y hji hi hx hy e => hd ⟨i, j, x, y, hji, hi, hx, hy, .inl e⟩
    have e2 := h4.2 fun i j x y hji hi hx hy e => hd ⟨i, j, x, y, hji, hi, hx, hy, .inr e⟩
    omega
  · rintro ⟨i, j, x, y, hji, hi, hx, hy, he⟩
    refine Classical.byContradiction fun hd => ?_
    have e1 := h2.1 (by omega) i j x y hji hi hx hy
    have e2 := h4.1 (by omega) i j x y hji hi hx hy
    rcases he with he | he
    · exact e1 he
    · exact e2 he

theorem mpsR_nms (l : List Nm) : D.mpsR (l.map nmD) = false := mpsR_map _ (fun _ => rfl) l
theorem upB_nms (y : Bool) (r r' : Nat) (m : List (Value × Value)) (l : List Nm) : upB y r r' m (.d (nmsD l)) = .d (nmsD l) := upB_sl y r r' m 2 24 _ (mpsR_nms l)
end Go.Proofs.YtlgnjehfojogmaaDoor
namespace Go.Proofs.YtlgnjehfojogmaaDoor
open Go.RowKit
set_option linter.unusedSimpArgs false
set_option linter.unusedVariables false
set_option maxRecDepth 100000

theorem iter_below (w : World) (s : ByteArray) (pos : Nat) : Below w.heap.size w (w.iter s pos) := (Below.refl _ _).alloc (Nat.le_refl _) _
def wdP (l : List UInt8) (n : Nat) : Prop := ∀ (k : Nat) (b : UInt8), k < n → l[k]? = some b → chLet b ∨ (chDig b ∧ 0 < k)
theorem wdP_ok {l : List UInt8} (h1 : 1 ≤ l.length) (h2 : l.length ≤ 12) (h : wdP l l.length) : nmB l = true := nmB_true ⟨h1, h2, fun k b hb => h k b (List.getElem?_eq_some_iff.1 hb).1 hb⟩
theorem wdP_no {l : List UInt8} {k : Nat} {b : UInt8} (hb : l[k]? = some b) (h : ¬ (chLet b ∨ (chDig b ∧ 0 < k))) : nmB l = false := nmB_false fun ⟨_, _, hp⟩ => h (hp k b hb)
theorem wdP_snoc {l : List UInt8} {n : Nat} {b : UInt8} (h : wdP l n) (hb : l[n]? = some b) (hc : chLet b ∨ (chDig b ∧ 0 < n)) : wdP l (n + 1) := by
  intro k c hk hc'
  by_cases e : k = n
  · subst e; rw [hb] at hc'; cases hc'; exact hc
  · exact h k c (by omega) hc'
theorem byte_at (s : ByteArray) (pos : Nat) (h : pos < s.size) : s.data.toList[pos]? = some (s[pos]'h) := by
  have hl : s.data.toList.length = s.size := Array.length_toList
  rw [List.getElem?_eq_getElem (by omega)]
  rfl
theorem dec_lt {s : ByteArray} {pos c wd : Nat} (h : pos < s.size) (hd : Utf8.decode s pos = (c, wd)) (hc : c < 128) : ∃ b : UInt8, s.data.toList[pos]? = some b ∧ b.toNat = c ∧ wd = 1 := by
  refine ⟨_, byte_at s pos h, ?_⟩
  by_cases ha : (s[pos]'h).toNat < 128
  · rw [decode_ascii s pos h ha] at hd
    simp only [Prod.mk.injEq] at hd
    exact ⟨hd.1, hd.2.symm⟩
  · have := (decode_high s pos h (by omega)).1
    rw [hd] at this
    simp only at this
    omega
theorem dec_no {s : ByteArray} {pos c wd : Nat} (h : pos < s.size) (hd : Utf8.decode s pos = (c, wd)) (hc : ¬ ((97 ≤ c ∧ c ≤ 122) ∨ c = 95 ∨ ((48 ≤ c ∧ c ≤ 57) ∧ 0 < pos))) : nmB s.data.toList = false := by
  by_cases h1 : c < 128
  · obtain ⟨b, hb, e, _⟩ := dec_lt h hd h1
    refine wdP_no hb ?_
    unfold chLet chDig
    rw [e]
    omega
  · refine wdP_no (byte_at s pos h) ?_
    by_cases ha : (s[pos]'h).toNat < 128
    · rw [decode_ascii s pos h ha] at hd
      simp only [Prod.mk.injEq] at hd
      omega
    · unfold chLet chDig
      omega
theorem dec_yes {s : ByteArray} {pos c wd : Nat} (h : pos < s.size) (hd : Utf8.decode s pos = (c, wd)) (hc : (97 ≤ c ∧ c ≤ 122) ∨ c = 95 ∨ ((48 ≤ c ∧ c ≤ 57) ∧ 0 < pos)) (hw : wdP s.data.toList pos) : wd = 1 ∧ wdP s.data.toList (pos + 1) := by
  obtain ⟨b, hb, e, e2⟩ := dec_lt h hd (by omega)
  refine ⟨e2, wdP_snoc hw hb ?_⟩
  unfold chLet chDig
  rw [e]
  omega
set_option maxHeartbeats 2000000 in
theorem word_call (s : ByteArray) (w : World) : Calls Tryd.prog 75 #[.string s] w fun e w' => e = .returned (.bool (nmB s.data.toList)) ∧ Below w.heap.size w w' := by
  have hl : s.data.toList.length = s.size := Array.length_toList
  by_cases h0 : s.size = 0
  · have hs : s = ⟨#[]⟩ := by
      cases s with | mk a =>
      congr 1
      exact Array.eq_empty_of_size_eq_zero h0
    have hR : nmB s.data.toList = false := nmB_false fun ⟨h1, _⟩ => by omega
    rw [hR]
    subst hs
    clear hR hl h0
    go_enter Tryd.func75, Tryd.ntmps75
    go_wp2
    go_ret
    exact ⟨rfl, Below.refl _ _⟩
  have hne0 : ¬ s.toList = [] := by
    intro h
    have := congrArg List.length h
    rw [show s.toList.length = s.size by rw [← hl, ba_toList]] at this
    exact h0 (by simpa using this)
  have hne : s.toList.isEmpty = false := by simpa using hne0
  by_cases h12 : 12 < s.size
  · have hR : nmB s.data.toList = false := nmB_false fun ⟨_, h1, _⟩ => by omega
    rw [hR]
    clear hR hl
    have h12' : (12 : Int) < (s.size : Int) := by omega
    go_enter Tryd.func75, Tryd.ntmps75
    go_wp2
    all_goals
      go_ret
      exact ⟨rfl, Below.refl _ _⟩
  have hH : Hid (s.data.toList.length = s.size) := hl
  obtain ⟨res, hres⟩ : ∃ r, r = nmB s.data.toList := ⟨_, rfl⟩
  have hHr : Hid (res = nmB s.data.toList) := hres
  rw [← hres]
  clear hl hres
  have h12' : ¬ (12 : Int) < (s.size : Int) := by omega
  go_enter Tryd.func75, Tryd.ntmps75
  go_wp2
  go_loopw [3] (fun i w' => ∃ pos : Nat, w' = w.iter s pos ∧ pos ≤ s.size ∧ Hid (wdP s.data.toList pos)) (fun _ w' => s.size - w'.iterPos w.heap.size)
  case atStart => exact ⟨0, rfl, by omega, fun k b hk => by omega⟩
  case round =>
    obtain ⟨pos, rfl, hpos, hwd⟩ := hrel
    by_cases hp : pos < s.size
    · obtain ⟨c, wd, hdc⟩ : ∃ c wd, Utf8.decode s pos = (c, wd) := ⟨_, _, rfl⟩
      have hnx : ∀ ty, (Instr.next (.pointer (some ⟨w.heap.size, 0, none⟩)) true ty).run Tryd.prog (w.iter s pos) = .ok (.tuple #[.bool true, .int .i64 pos, .int .i32 c]) (w.iter s (pos + wd)) := fun ty => by
        have := run_next_any (P := Tryd.prog) w s pos ty hp
        rw [hdc] at this
        exact this
      by_cases hyes : (97 ≤ c ∧ c ≤ 122) ∨ c = 95 ∨ ((48 ≤ c ∧ c ≤ 57) ∧ 0 < pos)
      · obtain ⟨rfl, hnext⟩ := dec_yes hp hdc hyes hwd.out
        have hN : Hid (wdP s.data.toList (pos + 1)) := hnext
        have hD : Hid (Utf8.decode s pos = (c, 1)) := hdc
        clear hnext hdc
        rcases hyes with ⟨a1, a2⟩ | a1 | ⟨⟨a1, a2⟩, a3⟩
        · have b1 : (97 : Int) ≤ (c : Int) := by omega
          have b2 : (c : Int) ≤ 122 := by omega
          go_wp2
          go_roundw
          case rel => exact ⟨pos + 1, rfl, by omega, hN⟩
          case measure => simp; omega
        · subst a1
          go_wp2
          go_roundw
          case rel => exact ⟨pos + 1, rfl, by omega, hN⟩
          case measure => simp; omega
        · have b1 : ¬ (97 : Int) ≤ (c : Int) := by omega
          have b2 : ¬ (c : Int) = 95 := by omega
          have b3 : (48 : Int) ≤ (c : Int) := by omega
          have b4 : (c : Int) ≤ 57 := by omega
          have b5 : (0 : Int) < (pos : Int) := by omega
          go_wp2
          go_roundw
          case rel => exact ⟨pos + 1, rfl, by omega, hN⟩
          case measure => simp; omega
      · have hno := dec_no hp hdc hyes
        obtain rfl : res = false := hHr.out.trans hno
        have hY : Hid (¬ ((97 ≤ c ∧ c ≤ 122) ∨ c = 95 ∨ ((48 ≤ c ∧ c ≤ 57) ∧ 0 < pos))) := hyes
        clear hno hdc hyes
        go_wp2
        all_goals first
          | (exfalso; have := hY.out; omega)
          | (go_ret; exact ⟨rfl, iter_below _ _ _⟩)
          | (exfalso; have := hY.out; rename_i h9; have h9 := eq_of_beq h9; omega)
    · have hnx : ∀ ty, (Instr.next (.pointer (some ⟨w.heap.size, 0, none⟩)) true ty).run Tryd.prog (w.iter s pos) = _ := fun ty => run_next_end w s pos ty hp
      obtain rfl : pos = s.size := by omega
      obtain rfl : res = true := hHr.out.trans (wdP_ok (by have := hH.out; omega) (by have := hH.out; omega) (by rw [hH.out]; exact hwd.out))
      go_wp2
      go_ret
      exact ⟨rfl, iter_below _ _ _⟩
end Go.Proofs.YtlgnjehfojogmaaDoor
namespace Go.Proofs.YtlgnjehfojogmaaDoor
open Go.RowKit
set_option linter.unusedSimpArgs false
set_option linter.unusedVariables false
set_option maxRecDepth 100000

theorem am_In (n lo hi : Int) : Fn Tryd.prog 47 [.i n, .i lo, .i hi] (fun v => v = .b (decide (lo ≤ n ∧ n ≤ hi))) := by
 refine Fn.intro (n := 15) ⟨Tryd.func47, rfl, rfl, rfl, rfl⟩ (by simp [V.pure, V.has, V.hasL]) (by simp) fun w0 out => ?_
 by_cases h1 : lo ≤ n
 ·by_cases h2 : n ≤ hi
  ·skip
   refine AW.seq ?_
   refine AW.region ?_
   refine AL.rp rfl rfl (rp_assign rfl rfl) ?_
   refine AL.nil ?_
   try simp only [thenS, S.put, enum, List.nil_append, List.cons_append, List.append_nil, Nat.zero_add, Nat.reduceAdd]
   refine AW.seq ?_
   refine AW.region ?_
   refine AL.rp rfl rfl (rp_move rfl rfl) ?_
   refine AL.rp rfl rfl (rp_move rfl rfl) ?_
   (first | (refine AL.rp rfl rfl (rp_geqT rfl rfl rfl (by first | assumption | omega | (dsimp only; omega))) ?_) | (refine AL.rp rfl rfl (rp_geqF rfl rfl rfl (by first | assumption | omega | (dsimp only; omega))) ?_) | (refine AL.rp rfl rfl (rp_geq rfl rfl rfl) ?_))
   refine AL.rp rfl rfl (rp_move rfl rfl) ?_
   (first | (refine AL.no rfl rfl rfl rfl ?_) | (refine AL.rpy rfl rfl rfl (rp_move rfl rfl) ?_))
   (first | (refine AL.no rfl rfl rfl rfl ?_) | (refine AL.rpy rfl rfl rfl (rp_move rfl rfl) ?_))
   (first | (refine AL.no rfl rfl rfl rfl ?_) | (refine AL.rpy rfl rfl rfl (rp_leqT rfl rfl rfl (by first | assumption | omega | (dsimp only; omega))) ?_) | (refine AL.rpy rfl rfl rfl (rp_leqF rfl rfl rfl (by first | assumption | omega | (dsimp only; omega))) ?_) | (refine AL.rpy rfl rfl rfl (rp_leq rfl rfl rfl) ?_))
   refine AL.rp rfl rfl (rp_pick rfl rfl rfl) ?_
   refine AL.rp rfl rfl (rp_assign rfl rfl) ?_
   refine AL.nil ?_
   try simp only [thenS, S.put]
   refine AW.ret ?_
   exact ⟨[_], ⟨rfl, trivial⟩, by simp [tupOf, h1, h2], by simp [tupOf, V.pure, V.has]⟩
  ·skip
   refine AW.seq ?_
   refine AW.region ?_
   refine AL.rp rfl rfl (rp_assign rfl rfl) ?_
   refine AL.nil ?_
   try simp only [thenS, S.put, enum, List.nil_append, List.cons_append, List.append_nil, Nat.zero_add, Nat.reduceAdd]
   refine AW.seq ?_
   refine AW.region ?_
   refine AL.rp rfl rfl (rp_move rfl rfl) ?_
   refine AL.rp rfl rfl (rp_move rfl rfl) ?_
   (first | (refine AL.rp rfl rfl (rp_geqT rfl rfl rfl (by first | assumption | omega | (dsimp only; omega))) ?_) | (refine AL.rp rfl rfl (rp_geqF rfl rfl rfl (by first | assumption | omega | (dsimp only; omega))) ?_) | (refine AL.rp rfl rfl (rp_geq rfl rfl rfl) ?_))
   refine AL.rp rfl rfl (rp_move rfl rfl) ?_
   (first | (refine AL.no rfl rfl rfl rfl ?_) | (refine AL.rpy rfl rfl rfl (rp_move rfl rfl) ?_))
   (first | (refine AL.no rfl rfl rfl rfl ?_) | (refine AL.rpy rfl rfl rfl (rp_move rfl rfl) ?_))
   (first | (refine AL.no rfl rfl rfl rfl ?_) | (refine AL.rpy rfl rfl rfl (rp_leqT rfl rfl rfl (by first | assumption | omega | (dsimp only; omega))) ?_) | (refine AL.rpy rfl rfl rfl (rp_leqF rfl rfl rfl (by first | assumption | omega | (dsimp only; omega))) ?_) | (refine AL.rpy rfl rfl rfl (rp_leq rfl rfl rfl) ?_))
   refine AL.rp rfl rfl (rp_pick rfl rfl rfl) ?_
   refine AL.rp rfl rfl (rp_assign rfl rfl) ?_
   refine AL.nil ?_
   try simp only [thenS, S.put]
   refine AW.ret ?_
   exact ⟨[_], ⟨rfl, trivial⟩, by simp [tupOf, h1, h2], by simp [tupOf, V.pure, V.has]⟩
 ·skip
  refine AW.seq ?_
  refine AW.region ?_
  refine AL.rp rfl rfl (rp_assign rfl rfl) ?_
  refine AL.nil ?_
  try simp only [thenS, S.put, enum, List.nil_append, List.cons_append, List.append_nil, Nat.zero_add, Nat.reduceAdd]
  refine AW.seq ?_
  refine AW.region ?_
  refine AL.rp rfl rfl (rp_move rfl rfl) ?_
  refine AL.rp rfl rfl (rp_move rfl rfl) ?_
  (first | (refine AL.rp rfl rfl (rp_geqT rfl rfl rfl (by first | assumption | omega | (dsimp only; omega))) ?_) | (refine AL.rp rfl rfl (rp_geqF rfl rfl rfl (by first | assumption | omega | (dsimp only; omega))) ?_) | (refine AL.rp rfl rfl (rp_geq rfl rfl rfl) ?_))
  refine AL.rp rfl rfl (rp_move rfl rfl) ?_
  (first | (refine AL.no rfl rfl rfl rfl ?_) | (refine AL.rpy rfl rfl rfl (rp_move rfl rfl) ?_))
  (first | (refine AL.no rfl rfl rfl rfl ?_) | (refine AL.rpy rfl rfl rfl (rp_move rfl rfl) ?_))
  (first | (refine AL.no rfl rfl rfl rfl ?_) | (refine AL.rpy rfl rfl rfl (rp_leqT rfl rfl rfl (by first | assumption | omega | (dsimp only; omega))) ?_) | (refine AL.rpy rfl rfl rfl (rp_leqF rfl rfl rfl (by first | assumption | omega | (dsimp only; omega))) ?_) | (refine AL.rpy rfl rfl rfl (rp_leq rfl rfl rfl) ?_))
  refine AL.rp rfl rfl (rp_pick rfl rfl rfl) ?_
  refine AL.rp rfl rfl (rp_assign rfl rfl) ?_
  refine AL.nil ?_
  try simp only [thenS, S.put]
  refine AW.ret ?_
  exact ⟨[_], ⟨rfl, trivial⟩, by simp [tupOf, h1], by simp [tupOf, V.pure, V.has]⟩

end Go.Proofs.YtlgnjehfojogmaaDoor
