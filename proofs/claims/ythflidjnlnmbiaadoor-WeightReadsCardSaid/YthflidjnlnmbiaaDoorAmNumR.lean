/- The document's numbers out of texts. -/
import Derived.Lib.Atoi
import Derived.Test.YthflidjnlnmbiaaDoorAmByt
import Derived.Test.YthflidjnlnmbiaaDoorAmIZ
import Derived.Test.YthflidjnlnmbiaaDoorAmH
-- AmB
namespace Go.Proofs.YthflidjnlnmbiaaDoor
open Go.RowKit
set_option linter.unusedSimpArgs false
set_option linter.unusedVariables false
set_option maxRecDepth 100000

section
variable {c : Cx} {s : S} {o : Oper}
theorem rp_index_str {t : TypeId} {x y : Operand} {str : ByteArray} {k : Nat} {n' : Int} {kd : IntKind} {b : UInt8} (hu : c.P.underlying t = some .string) (ho : o.op = .index t x y) (hx : s.ev x = some (.s str)) (hy : s.ev y = some (.d (.p (.int kd n')))) (hk : n' = (k : Int)) (hb : str.data.toList[k]? = some b) : RP c o s (.d (.p (.int .u8 (b.toNat : Int)))) := fun g a w hs => by
 refine ⟨.int .u8 (b.toNat : Int), .d _ _ (.p _), fun w' => ?_⟩
 subst hk
 obtain ⟨hlt, he⟩ := List.getElem?_eq_some_iff.1 hb
 have hlt2 : k < str.size := by
  have h : str.data.toList.length = str.size := Array.length_toList
  omega
 have e : (str[k]'hlt2) = b := by rw [← he]; rfl
 have hr : (Instr.index t (.string str) (.int kd (k : Int))).run c.P w' = .ok (.int .u8 (b.toNat : Int)) w' := by
  rw [run_index_string w' t str kd (k : Int) hu, dif_pos ⟨by omega, by omega⟩]
  simp only [Int.toNat_natCast, e]
 simp only [execOp, ho, VRep.p_eq (hs.ev hx), VRep.p_eq (hs.ev hy), Sem.run_bind, hr, Result.andThen_ok]
 rfl
theorem rp_sub8 {t t' : TypeId} {x y : Operand} {m n : Int} (ho : o.op = .binOp .sub t x y t') (hx : s.ev x = some (.d (.p (.int .u8 m)))) (hy : s.ev y = some (.d (.p (.int .u8 n)))) (h : 0 ≤ m - n ∧ m - n ≤ 255) : RP c o s (.d (.p (.int .u8 (m - n)))) :=
 rp_bin ho hx hy fun w => by
  have : IntKind.u8.wrap (m - n) = m - n := by rw [wrap8]; omega
  simp [eqGuard, binOp, Op.intArith, this]
end
theorem am_Digit (b : UInt8) : Fn Tryd.prog 45 [.d (.p (.int .u8 (b.toNat : Int)))] (fun v => v = .b (decide (48 ≤ b.toNat ∧ b.toNat ≤ 57))) := by
 by_cases h1 : 48 ≤ b.toNat
 ·by_cases h2 : b.toNat ≤ 57
  ·refine Fn.intro (n := 9) ⟨Tryd.func45, rfl, rfl, rfl, rfl⟩ (by simp [V.pure, V.has, V.hasL]) (by simp) fun w0 out => ?_
   refine AW.seq ?_
   refine AW.region ?_
   refine AL.rp rfl rfl (rp_assign rfl rfl) ?_
   refine AL.nil ?_
   try simp only [thenS, S.put, enum, List.nil_append, List.cons_append, List.append_nil, Nat.zero_add, Nat.reduceAdd]
   refine AW.seq ?_
   refine AW.region ?_
   refine AL.rp rfl rfl (rp_move rfl rfl) ?_
   (first | (refine AL.rp rfl rfl (rp_geqT rfl rfl rfl (by first | assumption | omega | (dsimp only; omega))) ?_) | (refine AL.rp rfl rfl (rp_geqF rfl rfl rfl (by first | assumption | omega | (dsimp only; omega))) ?_) | (refine AL.rp rfl rfl (rp_geq rfl rfl rfl) ?_))
   refine AL.rp rfl rfl (rp_move rfl rfl) ?_
   (first | (refine AL.noV rfl rfl rfl rfl ?_) | (refine AL.noU rfl ⟨_, rfl, rfl⟩ rfl ?_) | (refine AL.rpy rfl rfl rfl (rp_move rfl rfl) ?_))
   (first | (refine AL.noV rfl rfl rfl rfl ?_) | (refine AL.noU rfl ⟨_, rfl, rfl⟩ rfl ?_) | (refine AL.rpy rfl rfl rfl (rp_leqT rfl rfl rfl (by first | assumption | omega | (dsimp only; omega))) ?_) | (refine AL.rpy rfl rfl rfl (rp_leqF rfl rfl rfl (by first | assumption | omega | (dsimp only; omega))) ?_) | (refine AL.rpy rfl rfl rfl (rp_leq rfl rfl rfl) ?_))
   refine AL.rp rfl rfl (rp_pick rfl rfl rfl) ?_
   refine AL.rp rfl rfl (rp_assign rfl rfl) ?_
   refine AL.nil ?_
   try simp only [thenS, S.put]
   refine AW.ret ?_
   exact ⟨[_], ⟨rfl, trivial⟩, by simp [h1, h2, tupOf], by simp [tupOf, V.pure, V.has, V.hasL]⟩
  ·refine Fn.intro (n := 9) ⟨Tryd.func45, rfl, rfl, rfl, rfl⟩ (by simp [V.pure, V.has, V.hasL]) (by simp) fun w0 out => ?_
   refine AW.seq ?_
   refine AW.region ?_
   refine AL.rp rfl rfl (rp_assign rfl rfl) ?_
   refine AL.nil ?_
   try simp only [thenS, S.put, enum, List.nil_append, List.cons_append, List.append_nil, Nat.zero_add, Nat.reduceAdd]
   refine AW.seq ?_
   refine AW.region ?_
   refine AL.rp rfl rfl (rp_move rfl rfl) ?_
   (first | (refine AL.rp rfl rfl (rp_geqT rfl rfl rfl (by first | assumption | omega | (dsimp only; omega))) ?_) | (refine AL.rp rfl rfl (rp_geqF rfl rfl rfl (by first | assumption | omega | (dsimp only; omega))) ?_) | (refine AL.rp rfl rfl (rp_geq rfl rfl rfl) ?_))
   refine AL.rp rfl rfl (rp_move rfl rfl) ?_
   (first | (refine AL.noV rfl rfl rfl rfl ?_) | (refine AL.noU rfl ⟨_, rfl, rfl⟩ rfl ?_) | (refine AL.rpy rfl rfl rfl (rp_move rfl rfl) ?_))
   (first | (refine AL.noV rfl rfl rfl rfl ?_) | (refine AL.noU rfl ⟨_, rfl, rfl⟩ rfl ?_) | (refine AL.rpy rfl rfl rfl (rp_leqT rfl rfl rfl (by first | assumption | omega | (dsimp only; omega))) ?_) | (refine AL.rpy rfl rfl rfl (rp_leqF rfl rfl rfl (by first | assumption | omega | (dsimp only; omega))) ?_) | (refine AL.rpy rfl rfl rfl (rp_leq rfl rfl rfl) ?_))
   refine AL.rp rfl rfl (rp_pick rfl rfl rfl) ?_
   refine AL.rp rfl rfl (rp_assign rfl rfl) ?_
   refine AL.nil ?_
   try simp only [thenS, S.put]
   refine AW.ret ?_
   exact ⟨[_], ⟨rfl, trivial⟩, by simp [h1, h2, tupOf], by simp [tupOf, V.pure, V.has, V.hasL]⟩
 ·refine Fn.intro (n := 9) ⟨Tryd.func45, rfl, rfl, rfl, rfl⟩ (by simp [V.pure, V.has, V.hasL]) (by simp) fun w0 out => ?_
  refine AW.seq ?_
  refine AW.region ?_
  refine AL.rp rfl rfl (rp_assign rfl rfl) ?_
  refine AL.nil ?_
  try simp only [thenS, S.put, enum, List.nil_append, List.cons_append, List.append_nil, Nat.zero_add, Nat.reduceAdd]
  refine AW.seq ?_
  refine AW.region ?_
  refine AL.rp rfl rfl (rp_move rfl rfl) ?_
  (first | (refine AL.rp rfl rfl (rp_geqT rfl rfl rfl (by first | assumption | omega | (dsimp only; omega))) ?_) | (refine AL.rp rfl rfl (rp_geqF rfl rfl rfl (by first | assumption | omega | (dsimp only; omega))) ?_) | (refine AL.rp rfl rfl (rp_geq rfl rfl rfl) ?_))
  refine AL.rp rfl rfl (rp_move rfl rfl) ?_
  (first | (refine AL.noV rfl rfl rfl rfl ?_) | (refine AL.noU rfl ⟨_, rfl, rfl⟩ rfl ?_) | (refine AL.rpy rfl rfl rfl (rp_move rfl rfl) ?_))
  (first | (refine AL.noV rfl rfl rfl rfl ?_) | (refine AL.noU rfl ⟨_, rfl, rfl⟩ rfl ?_) | (refine AL.rpy rfl rfl rfl (rp_leqT rfl rfl rfl (by first | assumption | omega | (dsimp only; omega))) ?_) | (refine AL.rpy rfl rfl rfl (rp_leqF rfl rfl rfl (by first | assumption | omega | (dsimp only; omega))) ?_) | (refine AL.rpy rfl rfl rfl (rp_leq rfl rfl rfl) ?_))
  refine AL.rp rfl rfl (rp_pick rfl rfl rfl) ?_
  refine AL.rp rfl rfl (rp_assign rfl rfl) ?_
  refine AL.nil ?_
  try simp only [thenS, S.put]
  refine AW.ret ?_
  exact ⟨[_], ⟨rfl, trivial⟩, by simp [h1, tupOf], by simp [tupOf, V.pure, V.has, V.hasL]⟩

def numR (l : List UInt8) : Int := if 12 < l.length then -1 else if l = [] ∨ (l[0]? = some 48 ∧ 1 < l.length) then -2 else match Lib.decFrom 0 l with | none => -2 | some n => if 1000000000 < n then 1000000001 else n
theorem digit_some {b : UInt8} (h : 48 ≤ b.toNat ∧ b.toNat ≤ 57) : Lib.digitVal b = some (b.toNat - 48) := by unfold Lib.digitVal; rw [if_pos h]
theorem digit_none {b : UInt8} (h : ¬ (48 ≤ b.toNat ∧ b.toNat ≤ 57)) : Lib.digitVal b = none := by unfold Lib.digitVal; rw [if_neg h]
theorem dec_none {l : List UInt8} {k : Nat} {b : UInt8} (hb : l[k]? = some b) (h : ¬ (48 ≤ b.toNat ∧ b.toNat ≤ 57)) : Lib.decFrom 0 l = none := by
 cases hd : Lib.decFrom 0 l with
 | none => rfl
 | some n =>
  obtain ⟨d, hd'⟩ := Lib.digit_of_decFrom l 0 n hd k b hb
  rw [digit_none h] at hd'
  cases hd'
theorem b48 {b : UInt8} : b.toNat = 48 ↔ b = 48 := by
 constructor
 ·intro h; exact UInt8.toNat_inj.1 h
 ·rintro rfl; rfl
set_option maxHeartbeats 1000000 in
theorem am_Number (str : ByteArray) (l : List UInt8) (hl : str.data.toList = l) : Fn Tryd.prog 25 [.s str, .i 1000000000] (fun v => v = .i (numR l)) := by
 obtain ⟨n, hn⟩ : ∃ n, l.length = n := ⟨_, rfl⟩
 have hsz : str.size = n := by rw [← hn, ← hl]; exact Array.length_toList.symm
 by_cases h12 : 12 < n
 ·have hR : numR l = -1 := by unfold numR; rw [if_pos (by omega)]
  rw [hR]
  refine Fn.intro (n := 48) ⟨Tryd.func25, rfl, rfl, rfl, rfl⟩ (by simp [V.pure, V.has, V.hasL]) (by simp) fun w0 out => ?_
  refine AW.seq ?_
  refine AW.region ?_
  refine AL.rp rfl rfl (rp_assign rfl rfl) ?_
  refine AL.nil ?_
  try simp only [thenS, S.put, enum, List.nil_append, List.cons_append, List.append_nil, Nat.zero_add, Nat.reduceAdd]
  refine AW.seq ?_
  refine AW.seq ?_
  refine AW.region ?_
  refine AL.rp rfl rfl (rp_move rfl rfl) ?_
  (first | (refine AL.rp rfl rfl (rp_len_map Tryd.underlying9 rfl rfl (by assumption)) ?_) | (refine AL.rp rfl rfl (rp_len_own Tryd.underlying9 rfl rfl) ?_) | (refine AL.rp rfl rfl (rp_len_sl Tryd.underlying9 rfl rfl) ?_) | (refine AL.rp rfl rfl (rp_len_nil Tryd.underlying9 rfl rfl) ?_) | (refine AL.rp rfl rfl (rp_len_str Tryd.underlying9 rfl rfl) ?_))
  (first | (refine AL.rp rfl rfl (rp_gtrT rfl rfl rfl (by first | assumption | omega | (dsimp only; omega))) ?_) | (refine AL.rp rfl rfl (rp_gtrF rfl rfl rfl (by first | assumption | omega | (dsimp only; omega))) ?_) | (refine AL.rp rfl rfl (rp_gtr rfl rfl rfl) ?_))
  refine AL.nil ?_
  try simp only [thenS, S.put]
  refine AW.condT rfl ?_
  refine AW.seq ?_
  refine AW.region ?_
  refine AL.rp rfl rfl (rp_assign rfl rfl) ?_
  refine AL.nil ?_
  try simp only [thenS, S.put]
  refine AW.ret ?_
  exact ⟨[_], ⟨rfl, trivial⟩, rfl, by simp [tupOf, V.pure, V.has, V.hasL]⟩
 ·by_cases h00 : n = 0
  ·have hR : numR l = -2 := by unfold numR; rw [if_neg (by omega), if_pos (.inl (List.length_eq_zero_iff.1 (by omega)))]
   rw [hR]
   refine Fn.intro (n := 48) ⟨Tryd.func25, rfl, rfl, rfl, rfl⟩ (by simp [V.pure, V.has, V.hasL]) (by simp) fun w0 out => ?_
   refine AW.seq ?_
   refine AW.region ?_
   refine AL.rp rfl rfl (rp_assign rfl rfl) ?_
   refine AL.nil ?_
   try simp only [thenS, S.put, enum, List.nil_append, List.cons_append, List.append_nil, Nat.zero_add, Nat.reduceAdd]
   refine AW.seq ?_
   refine AW.seq ?_
   refine AW.region ?_
   refine AL.rp rfl rfl (rp_move rfl rfl) ?_
   (first | (refine AL.rp rfl rfl (rp_len_map Tryd.underlying9 rfl rfl (by assumption)) ?_) | (refine AL.rp rfl rfl (rp_len_own Tryd.underlying9 rfl rfl) ?_) | (refine AL.rp rfl rfl (rp_len_sl Tryd.underlying9 rfl rfl) ?_) | (refine AL.rp rfl rfl (rp_len_nil Tryd.underlying9 rfl rfl) ?_) | (refine AL.rp rfl rfl (rp_len_str Tryd.underlying9 rfl rfl) ?_))
   (first | (refine AL.rp rfl rfl (rp_gtrT rfl rfl rfl (by first | assumption | omega | (dsimp only; omega))) ?_) | (refine AL.rp rfl rfl (rp_gtrF rfl rfl rfl (by first | assumption | omega | (dsimp only; omega))) ?_) | (refine AL.rp rfl rfl (rp_gtr rfl rfl rfl) ?_))
   refine AL.nil ?_
   try simp only [thenS, S.put]
   refine AW.condF rfl ?_
   refine AW.skip ?_
   try simp only [thenS]
   refine AW.seq ?_
   refine AW.seq ?_
   refine AW.region ?_
   refine AL.rp rfl rfl (rp_move rfl rfl) ?_
   (first | (refine AL.rp rfl rfl (rp_len_map Tryd.underlying9 rfl rfl (by assumption)) ?_) | (refine AL.rp rfl rfl (rp_len_own Tryd.underlying9 rfl rfl) ?_) | (refine AL.rp rfl rfl (rp_len_sl Tryd.underlying9 rfl rfl) ?_) | (refine AL.rp rfl rfl (rp_len_nil Tryd.underlying9 rfl rfl) ?_) | (refine AL.rp rfl rfl (rp_len_str Tryd.underlying9 rfl rfl) ?_))
   (first | (refine AL.rp rfl rfl (rp_eqlT rfl rfl rfl (by first | assumption | omega | (dsimp only; omega))) ?_) | (refine AL.rp rfl rfl (rp_eqlF rfl rfl rfl (by first | assumption | omega | (dsimp only; omega))) ?_) | (refine AL.rp rfl rfl (rp_eql rfl rfl rfl) ?_))
   refine AL.rp rfl rfl (rp_move rfl rfl) ?_
   (first | (refine AL.noV rfl rfl rfl rfl ?_) | (refine AL.noU rfl ⟨_, rfl, rfl⟩ rfl ?_) | (refine AL.rpy rfl rfl rfl (rp_move rfl rfl) ?_))
   (first | (refine AL.noV rfl rfl rfl rfl ?_) | (refine AL.noU rfl ⟨_, rfl, rfl⟩ rfl ?_) | (refine AL.rpy rfl rfl rfl (rp_index_str Tryd.underlying9 rfl rfl rfl (by first | rfl | omega) (by assumption)) ?_))
   (first | (refine AL.noV rfl rfl rfl rfl ?_) | (refine AL.noU rfl ⟨_, rfl, rfl⟩ rfl ?_) | (refine AL.rpy rfl rfl rfl (rp_eqlT rfl rfl rfl (by first | assumption | omega | (dsimp only; omega))) ?_) | (refine AL.rpy rfl rfl rfl (rp_eqlF rfl rfl rfl (by first | assumption | omega | (dsimp only; omega))) ?_) | (refine AL.rpy rfl rfl rfl (rp_eql rfl rfl rfl) ?_))
   (first | (refine AL.noV rfl rfl rfl rfl ?_) | (refine AL.noU rfl ⟨_, rfl, rfl⟩ rfl ?_) | (refine AL.rpy rfl rfl rfl (rp_move rfl rfl) ?_))
   (first | (refine AL.noV rfl rfl rfl rfl ?_) | (refine AL.noU rfl ⟨_, rfl, rfl⟩ rfl ?_) | (refine AL.rpy rfl rfl rfl (rp_move rfl rfl) ?_))
   (first | (refine AL.noV rfl rfl rfl rfl ?_) | (refine AL.noU rfl ⟨_, rfl, rfl⟩ rfl ?_) | (refine AL.rpy rfl rfl rfl (rp_len_map Tryd.underlying9 rfl rfl (by assumption)) ?_) | (refine AL.rpy rfl rfl rfl (rp_len_own Tryd.underlying9 rfl rfl) ?_) | (refine AL.rpy rfl rfl rfl (rp_len_sl Tryd.underlying9 rfl rfl) ?_) | (refine AL.rpy rfl rfl rfl (rp_len_nil Tryd.underlying9 rfl rfl) ?_) | (refine AL.rpy rfl rfl rfl (rp_len_str Tryd.underlying9 rfl rfl) ?_))
   (first | (refine AL.noV rfl rfl rfl rfl ?_) | (refine AL.noU rfl ⟨_, rfl, rfl⟩ rfl ?_) | (refine AL.rpy rfl rfl rfl (rp_gtrT rfl rfl rfl (by first | assumption | omega | (dsimp only; omega))) ?_) | (refine AL.rpy rfl rfl rfl (rp_gtrF rfl rfl rfl (by first | assumption | omega | (dsimp only; omega))) ?_) | (refine AL.rpy rfl rfl rfl (rp_gtr rfl rfl rfl) ?_))
   (first | (refine AL.noV rfl rfl rfl rfl ?_) | (refine AL.noU rfl ⟨_, rfl, rfl⟩ rfl ?_) | (refine AL.rpy rfl rfl rfl (rp_pick rfl rfl rfl) ?_))
   refine AL.rp rfl rfl (rp_pick rfl rfl rfl) ?_
   refine AL.nil ?_
   try simp only [thenS, S.put]
   refine AW.condT rfl ?_
   refine AW.seq ?_
   refine AW.region ?_
   refine AL.rp rfl rfl (rp_assign rfl rfl) ?_
   refine AL.nil ?_
   try simp only [thenS, S.put]
   refine AW.ret ?_
   exact ⟨[_], ⟨rfl, trivial⟩, rfl, by simp [tupOf, V.pure, V.has, V.hasL]⟩
  ·have hne : l ≠ [] := by rintro rfl; simp at hn; omega
   obtain ⟨b0, hb0⟩ : ∃ b0, l[0]? = some b0 := ⟨_, List.getElem?_eq_getElem (by omega)⟩
   have hs0 : str.data.toList[0]? = some b0 := by rw [hl]; exact hb0
   by_cases hz : b0.toNat = 48 ∧ 1 < n
   ·have hR : numR l = -2 := by unfold numR; rw [if_neg (by omega), if_pos (.inr ⟨by rw [hb0, b48.1 hz.1], by omega⟩)]
    rw [hR]
    obtain ⟨hz1, hz2⟩ := hz
    refine Fn.intro (n := 48) ⟨Tryd.func25, rfl, rfl, rfl, rfl⟩ (by simp [V.pure, V.has, V.hasL]) (by simp) fun w0 out => ?_
    refine AW.seq ?_
    refine AW.region ?_
    refine AL.rp rfl rfl (rp_assign rfl rfl) ?_
    refine AL.nil ?_
    try simp only [thenS, S.put, enum, List.nil_append, List.cons_append, List.append_nil, Nat.zero_add, Nat.reduceAdd]
    refine AW.seq ?_
    refine AW.seq ?_
    refine AW.region ?_
    refine AL.rp rfl rfl (rp_move rfl rfl) ?_
    (first | (refine AL.rp rfl rfl (rp_len_map Tryd.underlying9 rfl rfl (by assumption)) ?_) | (refine AL.rp rfl rfl (rp_len_own Tryd.underlying9 rfl rfl) ?_) | (refine AL.rp rfl rfl (rp_len_sl Tryd.underlying9 rfl rfl) ?_) | (refine AL.rp rfl rfl (rp_len_nil Tryd.underlying9 rfl rfl) ?_) | (refine AL.rp rfl rfl (rp_len_str Tryd.underlying9 rfl rfl) ?_))
    (first | (refine AL.rp rfl rfl (rp_gtrT rfl rfl rfl (by first | assumption | omega | (dsimp only; omega))) ?_) | (refine AL.rp rfl rfl (rp_gtrF rfl rfl rfl (by first | assumption | omega | (dsimp only; omega))) ?_) | (refine AL.rp rfl rfl (rp_gtr rfl rfl rfl) ?_))
    refine AL.nil ?_
    try simp only [thenS, S.put]
    refine AW.condF rfl ?_
    refine AW.skip ?_
    try simp only [thenS]
    refine AW.seq ?_
    refine AW.seq ?_
    refine AW.region ?_
    refine AL.rp rfl rfl (rp_move rfl rfl) ?_
    (first | (refine AL.rp rfl rfl (rp_len_map Tryd.underlying9 rfl rfl (by assumption)) ?_) | (refine AL.rp rfl rfl (rp_len_own Tryd.underlying9 rfl rfl) ?_) | (refine AL.rp rfl rfl (rp_len_sl Tryd.underlying9 rfl rfl) ?_) | (refine AL.rp rfl rfl (rp_len_nil Tryd.underlying9 rfl rfl) ?_) | (refine AL.rp rfl rfl (rp_len_str Tryd.underlying9 rfl rfl) ?_))
    (first | (refine AL.rp rfl rfl (rp_eqlT rfl rfl rfl (by first | assumption | omega | (dsimp only; omega))) ?_) | (refine AL.rp rfl rfl (rp_eqlF rfl rfl rfl (by first | assumption | omega | (dsimp only; omega))) ?_) | (refine AL.rp rfl rfl (rp_eql rfl rfl rfl) ?_))
    refine AL.rp rfl rfl (rp_move rfl rfl) ?_
    (first | (refine AL.noV rfl rfl rfl rfl ?_) | (refine AL.noU rfl ⟨_, rfl, rfl⟩ rfl ?_) | (refine AL.rpy rfl rfl rfl (rp_move rfl rfl) ?_))
    (first | (refine AL.noV rfl rfl rfl rfl ?_) | (refine AL.noU rfl ⟨_, rfl, rfl⟩ rfl ?_) | (refine AL.rpy rfl rfl rfl (rp_index_str Tryd.underlying9 rfl rfl rfl (by first | rfl | omega) (by assumption)) ?_))
    (first | (refine AL.noV rfl rfl rfl rfl ?_) | (refine AL.noU rfl ⟨_, rfl, rfl⟩ rfl ?_) | (refine AL.rpy rfl rfl rfl (rp_eqlT rfl rfl rfl (by first | assumption | omega | (dsimp only; omega))) ?_) | (refine AL.rpy rfl rfl rfl (rp_eqlF rfl rfl rfl (by first | assumption | omega | (dsimp only; omega))) ?_) | (refine AL.rpy rfl rfl rfl (rp_eql rfl rfl rfl) ?_))
    (first | (refine AL.noV rfl rfl rfl rfl ?_) | (refine AL.noU rfl ⟨_, rfl, rfl⟩ rfl ?_) | (refine AL.rpy rfl rfl rfl (rp_move rfl rfl) ?_))
    (first | (refine AL.noV rfl rfl rfl rfl ?_) | (refine AL.noU rfl ⟨_, rfl, rfl⟩ rfl ?_) | (refine AL.rpy rfl rfl rfl (rp_move rfl rfl) ?_))
    (first | (refine AL.noV rfl rfl rfl rfl ?_) | (refine AL.noU rfl ⟨_, rfl, rfl⟩ rfl ?_) | (refine AL.rpy rfl rfl rfl (rp_len_map Tryd.underlying9 rfl rfl (by assumption)) ?_) | (refine AL.rpy rfl rfl rfl (rp_len_own Tryd.underlying9 rfl rfl) ?_) | (refine AL.rpy rfl rfl rfl (rp_len_sl Tryd.underlying9 rfl rfl) ?_) | (refine AL.rpy rfl rfl rfl (rp_len_nil Tryd.underlying9 rfl rfl) ?_) | (refine AL.rpy rfl rfl rfl (rp_len_str Tryd.underlying9 rfl rfl) ?_))
    (first | (refine AL.noV rfl rfl rfl rfl ?_) | (refine AL.noU rfl ⟨_, rfl, rfl⟩ rfl ?_) | (refine AL.rpy rfl rfl rfl (rp_gtrT rfl rfl rfl (by first | assumption | omega | (dsimp only; omega))) ?_) | (refine AL.rpy rfl rfl rfl (rp_gtrF rfl rfl rfl (by first | assumption | omega | (dsimp only; omega))) ?_) | (refine AL.rpy rfl rfl rfl (rp_gtr rfl rfl rfl) ?_))
    (first | (refine AL.noV rfl rfl rfl rfl ?_) | (refine AL.noU rfl ⟨_, rfl, rfl⟩ rfl ?_) | (refine AL.rpy rfl rfl rfl (rp_pick rfl rfl rfl) ?_))
    refine AL.rp rfl rfl (rp_pick rfl rfl rfl) ?_
    refine AL.nil ?_
    try simp only [thenS, S.put]
    refine AW.condT rfl ?_
    refine AW.seq ?_
    refine AW.region ?_
    refine AL.rp rfl rfl (rp_assign rfl rfl) ?_
    refine AL.nil ?_
    try simp only [thenS, S.put]
    refine AW.ret ?_
    exact ⟨[_], ⟨rfl, trivial⟩, rfl, by simp [tupOf, V.pure, V.has, V.hasL]⟩
   ·have hR : numR l = match Lib.decFrom 0 l with | none => -2 | some n => if 1000000000 < n then 1000000001 else n := by
     unfold numR
     rw [if_neg (by omega), if_neg]
     rintro (h | ⟨h1, h2⟩)
     ·exact hne h
     ·rw [hb0] at h1
      exact hz ⟨b48.2 (by simpa using h1), by omega⟩
    rw [hR]
    refine Fn.intro (n := 48) ⟨Tryd.func25, rfl, rfl, rfl, rfl⟩ (by simp [V.pure, V.has, V.hasL]) (by simp) fun w0 out => ?_
    refine AW.seq ?_
    refine AW.region ?_
    refine AL.rp rfl rfl (rp_assign rfl rfl) ?_
    refine AL.nil ?_
    try simp only [thenS, S.put, enum, List.nil_append, List.cons_append, List.append_nil, Nat.zero_add, Nat.reduceAdd]
    refine AW.seq ?_
    refine AW.seq ?_
    refine AW.region ?_
    refine AL.rp rfl rfl (rp_move rfl rfl) ?_
    (first | (refine AL.rp rfl rfl (rp_len_map Tryd.underlying9 rfl rfl (by assumption)) ?_) | (refine AL.rp rfl rfl (rp_len_own Tryd.underlying9 rfl rfl) ?_) | (refine AL.rp rfl rfl (rp_len_sl Tryd.underlying9 rfl rfl) ?_) | (refine AL.rp rfl rfl (rp_len_nil Tryd.underlying9 rfl rfl) ?_) | (refine AL.rp rfl rfl (rp_len_str Tryd.underlying9 rfl rfl) ?_))
    (first | (refine AL.rp rfl rfl (rp_gtrT rfl rfl rfl (by first | assumption | omega | (dsimp only; omega))) ?_) | (refine AL.rp rfl rfl (rp_gtrF rfl rfl rfl (by first | assumption | omega | (dsimp only; omega))) ?_) | (refine AL.rp rfl rfl (rp_gtr rfl rfl rfl) ?_))
    refine AL.nil ?_
    try simp only [thenS, S.put]
    refine AW.condF rfl ?_
    refine AW.skip ?_
    try simp only [thenS]
    refine AW.seqc (fun s' => s' = ⟨48, [(0, .s str), (1, .i 1000000000)], [], []⟩) ?_ ?_
    ·skip
     by_cases hz1 : b0.toNat = 48
     ·have hz2 : ¬ 1 < n := fun h => hz ⟨hz1, h⟩
      refine AW.seq ?_
      refine AW.region ?_
      refine AL.rp rfl rfl (rp_move rfl rfl) ?_
      (first | (refine AL.rp rfl rfl (rp_len_map Tryd.underlying9 rfl rfl (by assumption)) ?_) | (refine AL.rp rfl rfl (rp_len_own Tryd.underlying9 rfl rfl) ?_) | (refine AL.rp rfl rfl (rp_len_sl Tryd.underlying9 rfl rfl) ?_) | (refine AL.rp rfl rfl (rp_len_nil Tryd.underlying9 rfl rfl) ?_) | (refine AL.rp rfl rfl (rp_len_str Tryd.underlying9 rfl rfl) ?_))
      (first | (refine AL.rp rfl rfl (rp_eqlT rfl rfl rfl (by first | assumption | omega | (dsimp only; omega))) ?_) | (refine AL.rp rfl rfl (rp_eqlF rfl rfl rfl (by first | assumption | omega | (dsimp only; omega))) ?_) | (refine AL.rp rfl rfl (rp_eql rfl rfl rfl) ?_))
      refine AL.rp rfl rfl (rp_move rfl rfl) ?_
      (first | (refine AL.noV rfl rfl rfl rfl ?_) | (refine AL.noU rfl ⟨_, rfl, rfl⟩ rfl ?_) | (refine AL.rpy rfl rfl rfl (rp_move rfl rfl) ?_))
      (first | (refine AL.noV rfl rfl rfl rfl ?_) | (refine AL.noU rfl ⟨_, rfl, rfl⟩ rfl ?_) | (refine AL.rpy rfl rfl rfl (rp_index_str Tryd.underlying9 rfl rfl rfl (by first | rfl | omega) (by assumption)) ?_))
      (first | (refine AL.noV rfl rfl rfl rfl ?_) | (refine AL.noU rfl ⟨_, rfl, rfl⟩ rfl ?_) | (refine AL.rpy rfl rfl rfl (rp_eqlT rfl rfl rfl (by first | assumption | omega | (dsimp only; omega))) ?_) | (refine AL.rpy rfl rfl rfl (rp_eqlF rfl rfl rfl (by first | assumption | omega | (dsimp only; omega))) ?_) | (refine AL.rpy rfl rfl rfl (rp_eql rfl rfl rfl) ?_))
      (first | (refine AL.noV rfl rfl rfl rfl ?_) | (refine AL.noU rfl ⟨_, rfl, rfl⟩ rfl ?_) | (refine AL.rpy rfl rfl rfl (rp_move rfl rfl) ?_))
      (first | (refine AL.noV rfl rfl rfl rfl ?_) | (refine AL.noU rfl ⟨_, rfl, rfl⟩ rfl ?_) | (refine AL.rpy rfl rfl rfl (rp_move rfl rfl) ?_))
      (first | (refine AL.noV rfl rfl rfl rfl ?_) | (refine AL.noU rfl ⟨_, rfl, rfl⟩ rfl ?_) | (refine AL.rpy rfl rfl rfl (rp_len_map Tryd.underlying9 rfl rfl (by assumption)) ?_) | (refine AL.rpy rfl rfl rfl (rp_len_own Tryd.underlying9 rfl rfl) ?_) | (refine AL.rpy rfl rfl rfl (rp_len_sl Tryd.underlying9 rfl rfl) ?_) | (refine AL.rpy rfl rfl rfl (rp_len_nil Tryd.underlying9 rfl rfl) ?_) | (refine AL.rpy rfl rfl rfl (rp_len_str Tryd.underlying9 rfl rfl) ?_))
      (first | (refine AL.noV rfl rfl rfl rfl ?_) | (refine AL.noU rfl ⟨_, rfl, rfl⟩ rfl ?_) | (refine AL.rpy rfl rfl rfl (rp_gtrT rfl rfl rfl (by first | assumption | omega | (dsimp only; omega))) ?_) | (refine AL.rpy rfl rfl rfl (rp_gtrF rfl rfl rfl (by first | assumption | omega | (dsimp only; omega))) ?_) | (refine AL.rpy rfl rfl rfl (rp_gtr rfl rfl rfl) ?_))
      (first | (refine AL.noV rfl rfl rfl rfl ?_) | (refine AL.noU rfl ⟨_, rfl, rfl⟩ rfl ?_) | (refine AL.rpy rfl rfl rfl (rp_pick rfl rfl rfl) ?_))
      refine AL.rp rfl rfl (rp_pick rfl rfl rfl) ?_
      refine AL.nil ?_
      try simp only [thenS, S.put]
      refine AW.condF rfl ?_
      refine AW.skip ?_
      try simp only [thenS]
      refine ⟨_, ?_, rfl⟩
      exact (Less.of rfl (by repeat (first | exact trivial | refine ⟨⟨_, rfl, Wk.refl _⟩, ?_⟩ | refine ⟨⟨_, rfl, Wk.nil _ _⟩, ?_⟩ | refine ⟨⟨_, rfl, Wk.junk _⟩, ?_⟩)) (by repeat (first | exact trivial | refine ⟨rfl, ?_⟩)) rfl)
     ·skip
      refine AW.seq ?_
      refine AW.region ?_
      refine AL.rp rfl rfl (rp_move rfl rfl) ?_
      (first | (refine AL.rp rfl rfl (rp_len_map Tryd.underlying9 rfl rfl (by assumption)) ?_) | (refine AL.rp rfl rfl (rp_len_own Tryd.underlying9 rfl rfl) ?_) | (refine AL.rp rfl rfl (rp_len_sl Tryd.underlying9 rfl rfl) ?_) | (refine AL.rp rfl rfl (rp_len_nil Tryd.underlying9 rfl rfl) ?_) | (refine AL.rp rfl rfl (rp_len_str Tryd.underlying9 rfl rfl) ?_))
      (first | (refine AL.rp rfl rfl (rp_eqlT rfl rfl rfl (by first | assumption | omega | (dsimp only; omega))) ?_) | (refine AL.rp rfl rfl (rp_eqlF rfl rfl rfl (by first | assumption | omega | (dsimp only; omega))) ?_) | (refine AL.rp rfl rfl (rp_eql rfl rfl rfl) ?_))
      refine AL.rp rfl rfl (rp_move rfl rfl) ?_
      (first | (refine AL.noV rfl rfl rfl rfl ?_) | (refine AL.noU rfl ⟨_, rfl, rfl⟩ rfl ?_) | (refine AL.rpy rfl rfl rfl (rp_move rfl rfl) ?_))
      (first | (refine AL.noV rfl rfl rfl rfl ?_) | (refine AL.noU rfl ⟨_, rfl, rfl⟩ rfl ?_) | (refine AL.rpy rfl rfl rfl (rp_index_str Tryd.underlying9 rfl rfl rfl (by first | rfl | omega) (by assumption)) ?_))
      (first | (refine AL.noV rfl rfl rfl rfl ?_) | (refine AL.noU rfl ⟨_, rfl, rfl⟩ rfl ?_) | (refine AL.rpy rfl rfl rfl (rp_eqlT rfl rfl rfl (by first | assumption | omega | (dsimp only; omega))) ?_) | (refine AL.rpy rfl rfl rfl (rp_eqlF rfl rfl rfl (by first | assumption | omega | (dsimp only; omega))) ?_) | (refine AL.rpy rfl rfl rfl (rp_eql rfl rfl rfl) ?_))
      (first | (refine AL.noV rfl rfl rfl rfl ?_) | (refine AL.noU rfl ⟨_, rfl, rfl⟩ rfl ?_) | (refine AL.rpy rfl rfl rfl (rp_move rfl rfl) ?_))
      (first | (refine AL.noV rfl rfl rfl rfl ?_) | (refine AL.noU rfl ⟨_, rfl, rfl⟩ rfl ?_) | (refine AL.rpy rfl rfl rfl (rp_move rfl rfl) ?_))
      (first | (refine AL.noV rfl rfl rfl rfl ?_) | (refine AL.noU rfl ⟨_, rfl, rfl⟩ rfl ?_) | (refine AL.rpy rfl rfl rfl (rp_len_map Tryd.underlying9 rfl rfl (by assumption)) ?_) | (refine AL.rpy rfl rfl rfl (rp_len_own Tryd.underlying9 rfl rfl) ?_) | (refine AL.rpy rfl rfl rfl (rp_len_sl Tryd.underlying9 rfl rfl) ?_) | (refine AL.rpy rfl rfl rfl (rp_len_nil Tryd.underlying9 rfl rfl) ?_) | (refine AL.rpy rfl rfl rfl (rp_len_str Tryd.underlying9 rfl rfl) ?_))
      (first | (refine AL.noV rfl rfl rfl rfl ?_) | (refine AL.noU rfl ⟨_, rfl, rfl⟩ rfl ?_) | (refine AL.rpy rfl rfl rfl (rp_gtrT rfl rfl rfl (by first | assumption | omega | (dsimp only; omega))) ?_) | (refine AL.rpy rfl rfl rfl (rp_gtrF rfl rfl rfl (by first | assumption | omega | (dsimp only; omega))) ?_) | (refine AL.rpy rfl rfl rfl (rp_gtr rfl rfl rfl) ?_))
      (first | (refine AL.noV rfl rfl rfl rfl ?_) | (refine AL.noU rfl ⟨_, rfl, rfl⟩ rfl ?_) | (refine AL.rpy rfl rfl rfl (rp_pick rfl rfl rfl) ?_))
      refine AL.rp rfl rfl (rp_pick rfl rfl rfl) ?_
      refine AL.nil ?_
      try simp only [thenS, S.put]
      refine AW.condF rfl ?_
      refine AW.skip ?_
      try simp only [thenS]
      refine ⟨_, ?_, rfl⟩
      exact (Less.of rfl (by repeat (first | exact trivial | refine ⟨⟨_, rfl, Wk.refl _⟩, ?_⟩ | refine ⟨⟨_, rfl, Wk.nil _ _⟩, ?_⟩ | refine ⟨⟨_, rfl, Wk.junk _⟩, ?_⟩)) (by repeat (first | exact trivial | refine ⟨rfl, ?_⟩)) rfl)
    ·rintro s' rfl
     refine AW.seq ?_
     refine AW.region ?_
     refine AL.rp rfl rfl (rp_assign rfl rfl) ?_
     refine AL.nil ?_
     try simp only [thenS, S.put]
     refine AW.seq ?_
     refine AW.seq ?_
     refine AW.region ?_
     refine AL.rp rfl rfl (rp_assign rfl rfl) ?_
     refine AL.nil ?_
     try simp only [thenS, S.put]
     refine AW.block ?_
     refine AW.loop (fun s' => ∃ k v : Nat, k ≤ n ∧ Lib.decFrom 0 (l.take k) = some v ∧ v < 10 ^ k ∧ s' = ⟨48, [(0, .s str), (1, .i 1000000000), (5, .i v), (6, .i k)], [], []⟩) (fun s' => n - s'.nat 6) ⟨_, ?_, 0, 0, by omega, rfl, by simp, rfl⟩ ?_
     ·exact (Less.of rfl (by repeat (first | exact trivial | refine ⟨⟨_, rfl, Wk.refl _⟩, ?_⟩ | refine ⟨⟨_, rfl, Wk.nil _ _⟩, ?_⟩ | refine ⟨⟨_, rfl, Wk.junk _⟩, ?_⟩)) (by repeat (first | exact trivial | refine ⟨rfl, ?_⟩)) rfl)
     rintro s' ⟨k, v, hk, hv, hvb, rfl⟩
     have hp12 : (10 : Nat) ^ k ≤ 1000000000000 := by
      have : (10 : Nat) ^ k ≤ 10 ^ 12 := Nat.pow_le_pow_right (by omega) (by omega)
      simpa using this
     by_cases hlt : k < n
     ·obtain ⟨b, hb⟩ : ∃ b, l[k]? = some b := ⟨_, List.getElem?_eq_getElem (by omega)⟩
      have hsb : str.data.toList[k]? = some b := by rw [hl]; exact hb
      by_cases hd : 48 ≤ b.toNat ∧ b.toNat ≤ 57
      ·have hnext := Lib.decFrom_take l k 0 v b _ hv hb (digit_some hd)
       have hp : (10 : Nat) ^ (k + 1) = 10 ^ k * 10 := Nat.pow_succ 10 k
       have hcon := Fn.decT (am_Digit b) hd
       obtain ⟨hd1, hd2⟩ := hd
       refine AW.seq ?_
       refine AW.seq ?_
       refine AW.region ?_
       refine AL.rp rfl rfl (rp_move rfl rfl) ?_
       refine AL.rp rfl rfl (rp_move rfl rfl) ?_
       (first | (refine AL.rp rfl rfl (rp_len_map Tryd.underlying9 rfl rfl (by assumption)) ?_) | (refine AL.rp rfl rfl (rp_len_own Tryd.underlying9 rfl rfl) ?_) | (refine AL.rp rfl rfl (rp_len_sl Tryd.underlying9 rfl rfl) ?_) | (refine AL.rp rfl rfl (rp_len_nil Tryd.underlying9 rfl rfl) ?_) | (refine AL.rp rfl rfl (rp_len_str Tryd.underlying9 rfl rfl) ?_))
       (first | (refine AL.rp rfl rfl (rp_lssT rfl rfl rfl (by first | assumption | omega | (dsimp only; omega))) ?_) | (refine AL.rp rfl rfl (rp_lssF rfl rfl rfl (by first | assumption | omega | (dsimp only; omega))) ?_) | (refine AL.rp rfl rfl (rp_lss rfl rfl rfl) ?_))
       refine AL.nil ?_
       try simp only [thenS, S.put]
       refine AW.condT rfl ?_
       refine AW.skip ?_
       try simp only [thenS]
       refine AW.seq ?_
       refine AW.block ?_
       refine AW.seq ?_
       refine AW.seq ?_
       refine AW.region ?_
       refine AL.rp rfl rfl (rp_move rfl rfl) ?_
       refine AL.rp rfl rfl (rp_move rfl rfl) ?_
       refine AL.rp rfl rfl (rp_index_str Tryd.underlying9 rfl rfl rfl (by first | rfl | omega) (by assumption)) ?_
       refine AL.call (post := ?pc0) rfl (sm_call (args := [_]) ?hc0 ⟨Tryd.func45, rfl, rfl, rfl, rfl⟩ rfl rfl rfl rfl) ?_
       case hc0 => exact hcon
       rintro _ rfl -
       try dsimp only
       refine AL.rp rfl rfl (rp_not rfl rfl) ?_
       refine AL.nil ?_
       try simp only [thenS, S.put, S.newObj, setL, V.cs, List.length_cons, List.length_nil, List.take_succ_cons, List.take_zero, List.drop_succ_cons, List.drop_zero, List.drop_nil, List.nil_append, List.cons_append, List.append_nil, Nat.zero_add, Nat.reduceAdd, List.map_cons, List.map_nil, List.set_cons_zero, List.set_cons_succ]
       refine AW.condF rfl ?_
       refine AW.skip ?_
       try simp only [thenS]
       refine AW.region ?_
       refine AL.rp rfl rfl (rp_move rfl rfl) ?_
       refine AL.rp rfl rfl (rp_mul rfl rfl rfl (by first | omega | (dsimp only; omega))) ?_
       refine AL.rp rfl rfl (rp_move rfl rfl) ?_
       refine AL.rp rfl rfl (rp_move rfl rfl) ?_
       refine AL.rp rfl rfl (rp_index_str Tryd.underlying9 rfl rfl rfl (by first | rfl | omega) (by assumption)) ?_
       refine AL.rp rfl rfl (rp_sub8 rfl rfl rfl (by omega)) ?_
       refine AL.rp rfl rfl (rp_conv Tryd.underlying5 (by intro e h; cases h) (by intro h; cases h) Tryd.underlying3 rfl rfl (r := (b.toNat : Int) - 48) (by first | (rw [wrap8]; omega) | (rw [wrap8]; dsimp only; omega) | (rw [wrap16]; omega) | (rw [wrap64 (by omega)] <;> omega) | (rw [wrapU64 (by omega)] <;> omega))) ?_
       refine AL.rp rfl rfl (rp_addZ (((v * 10 + (b.toNat - 48) : Nat) : Int)) rfl rfl rfl (by omega) (by omega)) ?_
       refine AL.rp rfl rfl (rp_assign rfl rfl) ?_
       refine AL.nil ?_
       try simp only [thenS, S.put]
       refine AW.region ?_
       refine AL.rp rfl rfl (rp_move rfl rfl) ?_
       refine AL.rp rfl rfl (rp_add rfl rfl rfl (by first | omega | (dsimp only; omega))) ?_
       refine AL.rp rfl rfl (rp_assign rfl rfl) ?_
       refine AL.nil ?_
       try simp only [thenS, S.put]
       refine ⟨_, ?_, ⟨k + 1, v * 10 + (b.toNat - 48), by omega, hnext, by omega, rfl⟩, ?_⟩
       ·exact (Less.of rfl (by repeat (first | exact trivial | refine ⟨⟨_, rfl, Wk.refl _⟩, ?_⟩ | refine ⟨⟨_, rfl, Wk.nil _ _⟩, ?_⟩ | refine ⟨⟨_, rfl, Wk.junk _⟩, ?_⟩)) (by repeat (first | exact trivial | refine ⟨rfl, ?_⟩)) rfl)
       ·simp [S.nat, fnd]; omega
      ·have hN := dec_none hb hd
       have hcon := Fn.decF (am_Digit b) hd
       refine AW.seq ?_
       refine AW.seq ?_
       refine AW.region ?_
       refine AL.rp rfl rfl (rp_move rfl rfl) ?_
       refine AL.rp rfl rfl (rp_move rfl rfl) ?_
       (first | (refine AL.rp rfl rfl (rp_len_map Tryd.underlying9 rfl rfl (by assumption)) ?_) | (refine AL.rp rfl rfl (rp_len_own Tryd.underlying9 rfl rfl) ?_) | (refine AL.rp rfl rfl (rp_len_sl Tryd.underlying9 rfl rfl) ?_) | (refine AL.rp rfl rfl (rp_len_nil Tryd.underlying9 rfl rfl) ?_) | (refine AL.rp rfl rfl (rp_len_str Tryd.underlying9 rfl rfl) ?_))
       (first | (refine AL.rp rfl rfl (rp_lssT rfl rfl rfl (by first | assumption | omega | (dsimp only; omega))) ?_) | (refine AL.rp rfl rfl (rp_lssF rfl rfl rfl (by first | assumption | omega | (dsimp only; omega))) ?_) | (refine AL.rp rfl rfl (rp_lss rfl rfl rfl) ?_))
       refine AL.nil ?_
       try simp only [thenS, S.put]
       refine AW.condT rfl ?_
       refine AW.skip ?_
       try simp only [thenS]
       refine AW.seq ?_
       refine AW.block ?_
       refine AW.seq ?_
       refine AW.seq ?_
       refine AW.region ?_
       refine AL.rp rfl rfl (rp_move rfl rfl) ?_
       refine AL.rp rfl rfl (rp_move rfl rfl) ?_
       refine AL.rp rfl rfl (rp_index_str Tryd.underlying9 rfl rfl rfl (by first | rfl | omega) (by assumption)) ?_
       refine AL.call (post := ?pc1) rfl (sm_call (args := [_]) ?hc1 ⟨Tryd.func45, rfl, rfl, rfl, rfl⟩ rfl rfl rfl rfl) ?_
       case hc1 => exact hcon
       rintro _ rfl -
       try dsimp only
       refine AL.rp rfl rfl (rp_not rfl rfl) ?_
       refine AL.nil ?_
       try simp only [thenS, S.put, S.newObj, setL, V.cs, List.length_cons, List.length_nil, List.take_succ_cons, List.take_zero, List.drop_succ_cons, List.drop_zero, List.drop_nil, List.nil_append, List.cons_append, List.append_nil, Nat.zero_add, Nat.reduceAdd, List.map_cons, List.map_nil, List.set_cons_zero, List.set_cons_succ]
       refine AW.condT rfl ?_
       refine AW.seq ?_
       refine AW.region ?_
       refine AL.rp rfl rfl (rp_assign rfl rfl) ?_
       refine AL.nil ?_
       try simp only [thenS, S.put]
       refine AW.ret ?_
       exact ⟨[_], ⟨rfl, trivial⟩, by rw [hN]; rfl, by simp [tupOf, V.pure, V.has, V.hasL]⟩
     ·obtain rfl : k = n := by omega
      rw [List.take_of_length_le (by omega)] at hv
      by_cases hbig : 1000000000 < v
      ·skip
       refine AW.seq ?_
       refine AW.seq ?_
       refine AW.region ?_
       refine AL.rp rfl rfl (rp_move rfl rfl) ?_
       refine AL.rp rfl rfl (rp_move rfl rfl) ?_
       (first | (refine AL.rp rfl rfl (rp_len_map Tryd.underlying9 rfl rfl (by assumption)) ?_) | (refine AL.rp rfl rfl (rp_len_own Tryd.underlying9 rfl rfl) ?_) | (refine AL.rp rfl rfl (rp_len_sl Tryd.underlying9 rfl rfl) ?_) | (refine AL.rp rfl rfl (rp_len_nil Tryd.underlying9 rfl rfl) ?_) | (refine AL.rp rfl rfl (rp_len_str Tryd.underlying9 rfl rfl) ?_))
       (first | (refine AL.rp rfl rfl (rp_lssT rfl rfl rfl (by first | assumption | omega | (dsimp only; omega))) ?_) | (refine AL.rp rfl rfl (rp_lssF rfl rfl rfl (by first | assumption | omega | (dsimp only; omega))) ?_) | (refine AL.rp rfl rfl (rp_lss rfl rfl rfl) ?_))
       refine AL.nil ?_
       try simp only [thenS, S.put]
       refine AW.condF rfl ?_
       refine AW.exit ?_
       try simp only [thenS, inBlockS, ↓reduceIte, Nat.reduceEqDiff]
       refine AW.seq ?_
       refine AW.seq ?_
       refine AW.region ?_
       refine AL.rp rfl rfl (rp_move rfl rfl) ?_
       refine AL.rp rfl rfl (rp_move rfl rfl) ?_
       (first | (refine AL.rp rfl rfl (rp_gtrT rfl rfl rfl (by first | assumption | omega | (dsimp only; omega))) ?_) | (refine AL.rp rfl rfl (rp_gtrF rfl rfl rfl (by first | assumption | omega | (dsimp only; omega))) ?_) | (refine AL.rp rfl rfl (rp_gtr rfl rfl rfl) ?_))
       refine AL.nil ?_
       try simp only [thenS, S.put]
       refine AW.condT rfl ?_
       refine AW.seq ?_
       refine AW.region ?_
       refine AL.rp rfl rfl (rp_move rfl rfl) ?_
       refine AL.rp rfl rfl (rp_add rfl rfl rfl (by first | omega | (dsimp only; omega))) ?_
       refine AL.rp rfl rfl (rp_assign rfl rfl) ?_
       refine AL.nil ?_
       try simp only [thenS, S.put]
       refine AW.ret ?_
       exact ⟨[_], ⟨rfl, trivial⟩, by rw [hv]; simp only; rw [if_pos hbig]; rfl, by simp [tupOf, V.pure, V.has, V.hasL]⟩
      ·skip
       refine AW.seq ?_
       refine AW.seq ?_
       refine AW.region ?_
       refine AL.rp rfl rfl (rp_move rfl rfl) ?_
       refine AL.rp rfl rfl (rp_move rfl rfl) ?_
       (first | (refine AL.rp rfl rfl (rp_len_map Tryd.underlying9 rfl rfl (by assumption)) ?_) | (refine AL.rp rfl rfl (rp_len_own Tryd.underlying9 rfl rfl) ?_) | (refine AL.rp rfl rfl (rp_len_sl Tryd.underlying9 rfl rfl) ?_) | (refine AL.rp rfl rfl (rp_len_nil Tryd.underlying9 rfl rfl) ?_) | (refine AL.rp rfl rfl (rp_len_str Tryd.underlying9 rfl rfl) ?_))
       (first | (refine AL.rp rfl rfl (rp_lssT rfl rfl rfl (by first | assumption | omega | (dsimp only; omega))) ?_) | (refine AL.rp rfl rfl (rp_lssF rfl rfl rfl (by first | assumption | omega | (dsimp only; omega))) ?_) | (refine AL.rp rfl rfl (rp_lss rfl rfl rfl) ?_))
       refine AL.nil ?_
       try simp only [thenS, S.put]
       refine AW.condF rfl ?_
       refine AW.exit ?_
       try simp only [thenS, inBlockS, ↓reduceIte, Nat.reduceEqDiff]
       refine AW.seq ?_
       refine AW.seq ?_
       refine AW.region ?_
       refine AL.rp rfl rfl (rp_move rfl rfl) ?_
       refine AL.rp rfl rfl (rp_move rfl rfl) ?_
       (first | (refine AL.rp rfl rfl (rp_gtrT rfl rfl rfl (by first | assumption | omega | (dsimp only; omega))) ?_) | (refine AL.rp rfl rfl (rp_gtrF rfl rfl rfl (by first | assumption | omega | (dsimp only; omega))) ?_) | (refine AL.rp rfl rfl (rp_gtr rfl rfl rfl) ?_))
       refine AL.nil ?_
       try simp only [thenS, S.put]
       refine AW.condF rfl ?_
       refine AW.skip ?_
       try simp only [thenS]
       refine AW.seq ?_
       refine AW.region ?_
       refine AL.rp rfl rfl (rp_move rfl rfl) ?_
       refine AL.rp rfl rfl (rp_assign rfl rfl) ?_
       refine AL.nil ?_
       try simp only [thenS, S.put]
       refine AW.ret ?_
       exact ⟨[_], ⟨rfl, trivial⟩, by rw [hv]; simp only; rw [if_neg hbig]; rfl, by simp [tupOf, V.pure, V.has, V.hasL]⟩
end Go.Proofs.YthflidjnlnmbiaaDoor
