/- Part 8 of what the law PaperReads rests on. -/
import Derived.OrdersIn
import Derived.Test.YtkikceoccmoanaaGreatDoorPkPa1
import Derived.Test.YtkikceoccmoanaaGreatDoorPkPa2
import Derived.Test.YtkikceoccmoanaaGreatDoorPkPa3
import Derived.Test.YtkikceoccmoanaaGreatDoorPkPa4
import Derived.Test.YtkikceoccmoanaaGreatDoorPkPa5
import Derived.Test.YtkikceoccmoanaaGreatDoorPkPa6
import Derived.Test.YtkikceoccmoanaaGreatDoorPkPa7
namespace Go.Proofs.YtkikceoccmoanaaGreatDoor
open Go.RowKit
set_option linter.unusedSimpArgs false
set_option linter.unusedVariables false

section
variable {c : Cx} {s : S} {Q : Exit → S → Prop} {L : List Oper} {l : Array Bool} {ro : Option Nat}
theorem AF.condT {x : Operand} {t e : Code} (hc : s.ev x = some (.b true)) (h : AF ro c t Q s) : AF ro c (.cond x t e) Q s := AF.cond hc (fun _ => h) (fun h' => by cases h')
theorem AF.condF {x : Operand} {t e : Code} (hc : s.ev x = some (.b false)) (h : AF ro c e Q s) : AF ro c (.cond x t e) Q s := AF.cond hc (fun h' => by cases h') (fun _ => h)
theorem noDf_get {L : List Oper} (h : noDf L = true) {i : Nat} {o : Oper} (hi : L[i]? = some o) : ∀ d, o.op ≠ .defer d := fun d e => by
  have := List.all_eq_true.1 h o (List.mem_of_getElem? hi)
  rw [e] at this
  exact absurd this (by simp)
theorem any_in {P : Program} {md : Region.Mode} {L : List Oper} {Qc : Exit → Act → World → Prop} (hd : noDf L = true) (hq : ¬ LetsOut Qc) : ∀ (n : Nat) (listed : Array Bool) (a : Act) (w : World), wpAny P md L.toArray Qc n listed a w → wpAnyIn (fw ro) 0 P md L.toArray Qc n listed a w
  | 0, _, _, _, h => h
  | n + 1, listed, a, w, h => ⟨h.1, fun i hi => by
    have h2 := h.2 i hi
    unfold wpOp at h2
    unfold wpOpIn
    cases ho : L.toArray[i]? with
    | none =>
      rw [ho] at h2
      exact any_in hd hq n _ _ _ h2
    | some o =>
      rw [ho] at h2
      simp only at h2 ⊢
      split
      · rename_i hw
        rw [if_pos hw] at h2
        rcases h2 with h2 | ⟨_, h3⟩
        · exact Oper.wpIn_mono (fun a w h => any_in hd hq n _ _ _ h) (op_in (noDf_get hd (by simpa using ho)) h2)
        · exact (hq h3).elim
      · rename_i hw
        rw [if_neg hw] at h2
        exact ⟨fun f _ => trivial, any_in hd hq n _ _ _ h2⟩⟩
theorem AF.drawT {id : Nat} {N : S} (n : Nat) (hm : c.P.follows .mixedOrders = true) (hlen : L.length = n) (hl : Array.replicate n false = l) (h : AN c L.toArray (QJ N) n l s) (hN : Q .normal N) (hd : noDf L = true := by rfl) : AF ro c (.region id L.toArray true) Q s := by
  intro g a w hs
  refine wpIn_mono (Q := QQ c (QJ N)) ?_ (fun e a w hq => by
    obtain ⟨g', s', h3, h4⟩ := hq
    cases e <;> first | exact ⟨g', N, hN, h4.less h3⟩ | exact h3.elim)
  refine wpIn_region_any hm ?_
  have hs' : Sim c g s a w.drew := hs.move (Below.drew (Below.refl _ _))
  subst hl hlen
  have h1 := any_of_anyN _ _ _ _ (h (by
    intro j oj _ hl
    rw [Array.getD_eq_getD_getElem?, Array.getElem?_replicate] at hl
    split at hl <;> simp at hl) g a _ hs')
  refine any_in hd ?_ _ _ _ _ (by simpa using h1)
  rintro ⟨a', w', g', s', h3, _⟩
  exact h3
end
end Go.Proofs.YtkikceoccmoanaaGreatDoor
namespace Go.Proofs.YtkikceoccmoanaaGreatDoor
open Go.RowKit
set_option linter.unusedSimpArgs false
set_option linter.unusedVariables false

section
variable {c : Cx} {s : S} {Q : Exit → S → Prop} {ro : Option Nat}
theorem AF.adoptH {code : Code} (b j r sz : Nat) (ty : TypeId) {row : Row} (hb : fnd s.H b = some row) (hn : row.nil = false) (hj : row.cells[j]? = some .nil) (hr : s.clean r = true)
    (h : AF ro c code Q ⟨s.n, s.T, (b, { row with cells := row.cells.set j (.own r sz 0 true) }) :: (r, ⟨ty, [], true, sz⟩) :: s.H, s.K⟩) : AF ro c code Q s := fun g a w hs => h g a w (hs.adoptH hb hn hj hr)
theorem AF.drawX {id : Nat} {l : List Oper} (r : Nat) (order : List (Nat × Bool)) (need : Nat → Bool) (N : Nat) (hm : c.P.follows .mixedOrders = true) (hsel : Region.noSelect l.toArray = true) (hlen : order.length = l.length)
    (hok : okS .any l.toArray need N order (Array.replicate l.length false) = true) (h : AE1 c l.toArray Q need r order s) (hd : noDf l = true := by rfl) (hq : noOut Q := by exact fun _ h => h) : AF ro c (.region id l.toArray true) Q s := by
  intro g a w hs
  refine wpIn_region_any hm ?_
  have hs' : Sim c g s a w.drew := hs.move (Below.drew (Below.refl _ _))
  have hex : Ex c g s r (fun k => ∃ row, fnd s.H r = some row ∧ row.nil = false ∧ (g r).1 = k) w.drew := by
    refine ⟨fun k row hk h1 h2 h3 => ?_, fun k hk _ h3 => ?_, fun row h1 h2 => ⟨row, h1, h2, rfl⟩⟩
    · obtain ⟨row2, h4, h5, h6⟩ := h3
      exact hk (hs'.inj k r row row2 h1 h2 h4 h5 h6.symm)
    · obtain ⟨row2, h4, h5, h6⟩ := h3
      exact hk.2 r row2 h4 h5 h6
  have hlt : ∀ k, (∃ row, fnd s.H r = some row ∧ row.nil = false ∧ (g r).1 = k) → k < w.drew.heap.size := by
    rintro k ⟨row, h1, h2, rfl⟩
    obtain ⟨arr, h3, _⟩ := hs'.obj r row h1 h2
    exact (Array.getElem?_eq_some_iff.1 h3).1
  have := any_of_anyN _ _ _ _ (anyN_of_ASeq (P := c.P) (Q := QQ c Q) (T := BX _ w.drew.heap.size w.drew) (need := need) (md := .any) hsel order (Array.replicate l.length false) a w.drew (by
    intro j oj _ hl
    rw [Array.getD_eq_getD_getElem?, Array.getElem?_replicate] at hl
    split at hl <;> simp at hl) hok (h _ g a _ hs' hex hlt))
  rw [hlen] at this
  refine any_in hd ?_ _ _ _ _ (by simpa using this)
  rintro ⟨a', w', g', s', h3, _⟩
  exact hq _ h3
theorem AF.famPush {β : Type} {F : Fam β} {code : Code} (lits : List (Nat × Row)) (rb z : Nat) (x : β) {base : Nat} {L : List β} {row : Row} (hH : s.H = lits ++ F.objs base L) (hr : fnd lits rb = some row) (hn : row.nil = false) (hz : fnd lits z = some (F.row x)) (hc : row.cells = F.cells base L ++ ((F.pre x).map V.d ++ [.own z F.sz (F.it x).length (F.it x).isEmpty])) (hzr : z ≠ rb) (hlow : lits.all (fun x => decide (x.1 < base)) = true)
    (hlo : ∀ x ∈ lits, x.1 ≠ rb → V.hasL z x.2.cells = false) (hT : s.T.all (fun x => !x.2.has z) = true) (hK : V.hasL z s.K = false) (hlo2 : ∀ x ∈ lits, x.1 ≠ rb → ∀ r, base ≤ r → V.hasL r x.2.cells = false) (hT2 : s.T.all (fun x => x.2.low base) = true) (hK2 : V.lowL base s.K = true)
    (h : AF ro c code Q ⟨s.n, s.T, (rb, { row with cells := F.cells base (L ++ [x]) }) :: lits.filter (fun x => x.1 != z) ++ F.objs base (L ++ [x]), s.K⟩) : AF ro c code Q s := fun g a w hs =>
  let ⟨g', h'⟩ := Sim.famPush hs lits rb z x hH hr hn hz hc hzr hlow hlo hT hK hlo2 hT2 hK2
  h g' a w h'
end
end Go.Proofs.YtkikceoccmoanaaGreatDoor
namespace Go.Proofs.YtkikceoccmoanaaGreatDoor
open Go.RowKit
set_option linter.unusedSimpArgs false
set_option linter.unusedVariables false
set_option maxRecDepth 100000

set_option maxHeartbeats 1000000 in
theorem am_Read (str : ByteArray) (l : List UInt8) (hl : str.data.toList = l) : Fn Tryz.prog 19 [.s str] (fun v => v = .tup [.i (rdX l), .i (rdE l)]) := by
 obtain ⟨n, hn⟩ : ∃ n, l.length = n := ⟨_, rfl⟩
 have hsz : str.size = n := by rw [← hn, ← hl]; exact Array.length_toList.symm
 by_cases hi : l = infL
 ·have hs : str = ⟨#[105, 110, 102]⟩ := by rw [ba_of hl, hi]; rfl
  have h1 : rdX l = 1000000001 := by unfold rdX; rw [if_pos hi]
  have h2 : rdE l = 0 := by unfold rdE; rw [if_pos hi]
  rw [h1, h2]
  refine Fn.intro (n := 39) ⟨Tryz.func19, rfl, rfl, rfl, rfl⟩ (by simp [V.pure, V.has, V.hasL]) (by simp) fun w0 out => ?_
  refine AW.seq ?_
  refine AW.region ?_
  refine AL.rp rfl rfl (rp_assign rfl rfl) ?_
  refine AL.rp rfl rfl (rp_assign rfl rfl) ?_
  refine AL.nil ?_
  try simp only [thenS, S.put, enum, List.nil_append, List.cons_append, List.append_nil, Nat.zero_add, Nat.reduceAdd]
  refine AW.seq ?_
  refine AW.seq ?_
  refine AW.region ?_
  refine AL.rp rfl rfl (rp_move rfl rfl) ?_
  (first | (refine AL.rp rfl rfl (rp_eqlsT rfl rfl rfl (by assumption)) ?_) | (refine AL.rp rfl rfl (rp_eqlsF rfl rfl rfl (by assumption)) ?_) | (refine AL.rp rfl rfl (rp_eqls rfl rfl rfl) ?_))
  refine AL.nil ?_
  try simp only [thenS, S.put]
  refine AW.condT rfl ?_
  refine AW.seq ?_
  refine AW.region ?_
  refine AL.rp rfl rfl (rp_assign rfl rfl) ?_
  refine AL.rp rfl rfl (rp_assign rfl rfl) ?_
  refine AL.nil ?_
  try simp only [thenS, S.put]
  refine AW.ret ?_
  exact ⟨[_, _], ⟨rfl, rfl, trivial⟩, rfl, by simp [tupOf, V.pure, V.has, V.hasL]⟩
 ·have hs : str.data.toList ≠ (⟨#[105, 110, 102]⟩ : ByteArray).data.toList := by rw [hl]; exact hi
  have h1 : rdX l = if numR l = -1 ∨ numR l = -2 ∨ 1000000000 < numR l then 0 else numR l := by unfold rdX; rw [if_neg hi]
  have h2 : rdE l = if numR l = -1 then 1 else if numR l = -2 then 3 else if 1000000000 < numR l then 4 else 0 := by unfold rdE; rw [if_neg hi]
  rw [h1, h2]
  by_cases h12 : 12 < n
  ·have hR : numR l = -1 := by unfold numR; rw [if_pos (by omega)]
   rw [hR]
   refine Fn.intro (n := 39) ⟨Tryz.func19, rfl, rfl, rfl, rfl⟩ (by simp [V.pure, V.has, V.hasL]) (by simp) fun w0 out => ?_
   refine AW.seq ?_
   refine AW.region ?_
   refine AL.rp rfl rfl (rp_assign rfl rfl) ?_
   refine AL.rp rfl rfl (rp_assign rfl rfl) ?_
   refine AL.nil ?_
   try simp only [thenS, S.put, enum, List.nil_append, List.cons_append, List.append_nil, Nat.zero_add, Nat.reduceAdd]
   refine AW.seq ?_
   refine AW.seq ?_
   refine AW.region ?_
   refine AL.rp rfl rfl (rp_move rfl rfl) ?_
   (first | (refine AL.rp rfl rfl (rp_eqlsT rfl rfl rfl (by assumption)) ?_) | (refine AL.rp rfl rfl (rp_eqlsF rfl rfl rfl (by assumption)) ?_) | (refine AL.rp rfl rfl (rp_eqls rfl rfl rfl) ?_))
   refine AL.nil ?_
   try simp only [thenS, S.put]
   refine AW.condF rfl ?_
   refine AW.skip ?_
   try simp only [thenS]
   refine AW.seq ?_
   refine AW.seq ?_
   refine AW.region ?_
   refine AL.rp rfl rfl (rp_move rfl rfl) ?_
   (first | (refine AL.rp rfl rfl (rp_len_map Tryz.underlying9 rfl rfl (by assumption)) ?_) | (refine AL.rp rfl rfl (rp_len_own Tryz.underlying9 rfl rfl) ?_) | (refine AL.rp rfl rfl (rp_len_sl Tryz.underlying9 rfl rfl) ?_) | (refine AL.rp rfl rfl (rp_len_nil Tryz.underlying9 rfl rfl) ?_) | (refine AL.rp rfl rfl (rp_len_str Tryz.underlying9 rfl rfl) ?_))
   (first | (refine AL.rp rfl rfl (rp_gtrT rfl rfl rfl (by first | assumption | omega | (dsimp only; omega))) ?_) | (refine AL.rp rfl rfl (rp_gtrF rfl rfl rfl (by first | assumption | omega | (dsimp only; omega))) ?_) | (refine AL.rp rfl rfl (rp_gtr rfl rfl rfl) ?_))
   refine AL.nil ?_
   try simp only [thenS, S.put]
   refine AW.condT rfl ?_
   refine AW.seq ?_
   refine AW.region ?_
   refine AL.rp rfl rfl (rp_assign rfl rfl) ?_
   refine AL.rp rfl rfl (rp_assign rfl rfl) ?_
   refine AL.nil ?_
   try simp only [thenS, S.put]
   refine AW.ret ?_
   exact ⟨[_, _], ⟨rfl, rfl, trivial⟩, rfl, by simp [tupOf, V.pure, V.has, V.hasL]⟩
  ·by_cases he : l = []
   ·have hR : numR l = -2 := by unfold numR; rw [if_neg (by omega), if_pos (.inl he)]
    rw [hR]
    have hse : str = ⟨#[]⟩ := by rw [ba_of hl, he]
    refine Fn.intro (n := 39) ⟨Tryz.func19, rfl, rfl, rfl, rfl⟩ (by simp [V.pure, V.has, V.hasL]) (by simp) fun w0 out => ?_
    refine AW.seq ?_
    refine AW.region ?_
    refine AL.rp rfl rfl (rp_assign rfl rfl) ?_
    refine AL.rp rfl rfl (rp_assign rfl rfl) ?_
    refine AL.nil ?_
    try simp only [thenS, S.put, enum, List.nil_append, List.cons_append, List.append_nil, Nat.zero_add, Nat.reduceAdd]
    refine AW.seq ?_
    refine AW.seq ?_
    refine AW.region ?_
    refine AL.rp rfl rfl (rp_move rfl rfl) ?_
    (first | (refine AL.rp rfl rfl (rp_eqlsT rfl rfl rfl (by assumption)) ?_) | (refine AL.rp rfl rfl (rp_eqlsF rfl rfl rfl (by assumption)) ?_) | (refine AL.rp rfl rfl (rp_eqls rfl rfl rfl) ?_))
    refine AL.nil ?_
    try simp only [thenS, S.put]
    refine AW.condF rfl ?_
    refine AW.skip ?_
    try simp only [thenS]
    refine AW.seq ?_
    refine AW.seq ?_
    refine AW.region ?_
    refine AL.rp rfl rfl (rp_move rfl rfl) ?_
    (first | (refine AL.rp rfl rfl (rp_len_map Tryz.underlying9 rfl rfl (by assumption)) ?_) | (refine AL.rp rfl rfl (rp_len_own Tryz.underlying9 rfl rfl) ?_) | (refine AL.rp rfl rfl (rp_len_sl Tryz.underlying9 rfl rfl) ?_) | (refine AL.rp rfl rfl (rp_len_nil Tryz.underlying9 rfl rfl) ?_) | (refine AL.rp rfl rfl (rp_len_str Tryz.underlying9 rfl rfl) ?_))
    (first | (refine AL.rp rfl rfl (rp_gtrT rfl rfl rfl (by first | assumption | omega | (dsimp only; omega))) ?_) | (refine AL.rp rfl rfl (rp_gtrF rfl rfl rfl (by first | assumption | omega | (dsimp only; omega))) ?_) | (refine AL.rp rfl rfl (rp_gtr rfl rfl rfl) ?_))
    refine AL.nil ?_
    try simp only [thenS, S.put]
    refine AW.condF rfl ?_
    refine AW.skip ?_
    try simp only [thenS]
    refine AW.seq ?_
    refine AW.seq ?_
    refine AW.region ?_
    refine AL.rp rfl rfl (rp_move rfl rfl) ?_
    (first | (refine AL.rp rfl rfl (rp_eqlsT rfl rfl rfl (by assumption)) ?_) | (refine AL.rp rfl rfl (rp_eqlsF rfl rfl rfl (by assumption)) ?_) | (refine AL.rp rfl rfl (rp_eqls rfl rfl rfl) ?_))
    refine AL.rp rfl rfl (rp_move rfl rfl) ?_
    (first | (refine AL.noV rfl rfl rfl rfl ?_) | (refine AL.noU rfl ⟨_, rfl, rfl⟩ rfl ?_) | (refine AL.rpy rfl rfl rfl (rp_move rfl rfl) ?_))
    (first | (refine AL.noV rfl rfl rfl rfl ?_) | (refine AL.noU rfl ⟨_, rfl, rfl⟩ rfl ?_))
    (first | (refine AL.noV rfl rfl rfl rfl ?_) | (refine AL.noU rfl ⟨_, rfl, rfl⟩ rfl ?_) | (refine AL.rpy rfl rfl rfl (rp_neqsF rfl rfl rfl (by assumption)) ?_) | (refine AL.rpy rfl rfl rfl (rp_neqsT rfl rfl rfl (by assumption)) ?_) | (refine AL.rpy rfl rfl rfl (rp_neqs rfl rfl rfl) ?_))
    refine AL.rp rfl rfl (rp_pick rfl rfl rfl) ?_
    refine AL.rp rfl rfl (rp_move rfl rfl) ?_
    (first | (refine AL.noV rfl rfl rfl rfl ?_) | (refine AL.noU rfl ⟨_, rfl, rfl⟩ rfl ?_) | (refine AL.rpy rfl rfl rfl (rp_move rfl rfl) ?_))
    (first | (refine AL.noV rfl rfl rfl rfl ?_) | (refine AL.noU rfl ⟨_, rfl, rfl⟩ rfl ?_) | (refine AL.rpy rfl rfl rfl (rp_index_str Tryz.underlying9 rfl rfl rfl (by first | rfl | omega) (by assumption)) ?_))
    (first | (refine AL.noV rfl rfl rfl rfl ?_) | (refine AL.noU rfl ⟨_, rfl, rfl⟩ rfl ?_) | (refine AL.rpy rfl rfl rfl (rp_eqlT rfl rfl rfl (by first | assumption | omega | (dsimp only; omega))) ?_) | (refine AL.rpy rfl rfl rfl (rp_eqlF rfl rfl rfl (by first | assumption | omega | (dsimp only; omega))) ?_) | (refine AL.rpy rfl rfl rfl (rp_eql rfl rfl rfl) ?_))
    (first | (refine AL.noV rfl rfl rfl rfl ?_) | (refine AL.noU rfl ⟨_, rfl, rfl⟩ rfl ?_) | (refine AL.rpy rfl rfl rfl (rp_move rfl rfl) ?_))
    (first | (refine AL.noV rfl rfl rfl rfl ?_) | (refine AL.noU rfl ⟨_, rfl, rfl⟩ rfl ?_) | (refine AL.rpy rfl rfl rfl (rp_move rfl rfl) ?_))
    (first | (refine AL.noV rfl rfl rfl rfl ?_) | (refine AL.noU rfl ⟨_, rfl, rfl⟩ rfl ?_) | (refine AL.rpy rfl rfl rfl (rp_neqsF rfl rfl rfl (by assumption)) ?_) | (refine AL.rpy rfl rfl rfl (rp_neqsT rfl rfl rfl (by assumption)) ?_) | (refine AL.rpy rfl rfl rfl (rp_neqs rfl rfl rfl) ?_))
    (first | (refine AL.noV rfl rfl rfl rfl ?_) | (refine AL.noU rfl ⟨_, rfl, rfl⟩ rfl ?_) | (refine AL.rpy rfl rfl rfl (rp_pick rfl rfl rfl) ?_))
    refine AL.rp rfl rfl (rp_pick rfl rfl rfl) ?_
    refine AL.nil ?_
    try simp only [thenS, S.put]
    refine AW.condT rfl ?_
    refine AW.seq ?_
    refine AW.region ?_
    refine AL.rp rfl rfl (rp_assign rfl rfl) ?_
    refine AL.rp rfl rfl (rp_assign rfl rfl) ?_
    refine AL.nil ?_
    try simp only [thenS, S.put]
    refine AW.ret ?_
    exact ⟨[_, _], ⟨rfl, rfl, trivial⟩, rfl, by simp [tupOf, V.pure, V.has, V.hasL]⟩
   ·have hse : str.data.toList ≠ (⟨#[]⟩ : ByteArray).data.toList := by rw [hl]; exact he
    have htc := am_Trim str (by omega)
    rw [hl] at htc
    obtain ⟨tr, htr⟩ : ∃ tr : ByteArray, tr = ⟨(Lib.trimS l digs).toArray⟩ := ⟨_, rfl⟩
    rw [← htr] at htc
    have htl : tr.data.toList = Lib.trimS l digs := by rw [htr]
    by_cases hall : ∀ x ∈ l, 48 ≤ x.toNat ∧ x.toNat ≤ 57
    ·have ht0 : tr = ⟨#[]⟩ := by
      have := (trim_nil l digs).2 fun x hx => (digs_has x).2 (hall x hx)
      rw [htr, this]
     obtain ⟨v, hv⟩ := dec_all l 0 hall
     have hato := am_Atoi str (v : Int) (by omega) (by rw [hl]; exact atoi_of he hall hv)
     have hpos : 0 < n := by rw [← hn]; exact List.length_pos_iff.2 he
     obtain ⟨b0, hb0⟩ : ∃ b0, l[0]? = some b0 := ⟨_, List.getElem?_eq_getElem (by omega)⟩
     have hs0 : str.data.toList[0]? = some b0 := by rw [hl]; exact hb0
     by_cases hz1 : b0.toNat = 48
     ·by_cases hz2 : l = [48]
      ·have hs48 : str = ⟨#[48]⟩ := by rw [ba_of hl, hz2]
       have hv0 : v = 0 := by rw [hz2] at hv; have : Lib.decFrom 0 [48] = some 0 := rfl; rw [this] at hv; exact (Option.some.inj hv).symm
       have hR : numR l = 0 := by rw [hz2]; rfl
       rw [hR]
       subst hv0
       refine Fn.intro (n := 39) ⟨Tryz.func19, rfl, rfl, rfl, rfl⟩ (by simp [V.pure, V.has, V.hasL]) (by simp) fun w0 out => ?_
       refine AW.seq ?_
       refine AW.region ?_
       refine AL.rp rfl rfl (rp_assign rfl rfl) ?_
       refine AL.rp rfl rfl (rp_assign rfl rfl) ?_
       refine AL.nil ?_
       try simp only [thenS, S.put, enum, List.nil_append, List.cons_append, List.append_nil, Nat.zero_add, Nat.reduceAdd]
       refine AW.seq ?_
       refine AW.seq ?_
       refine AW.region ?_
       refine AL.rp rfl rfl (rp_move rfl rfl) ?_
       (first | (refine AL.rp rfl rfl (rp_eqlsT rfl rfl rfl (by assumption)) ?_) | (refine AL.rp rfl rfl (rp_eqlsF rfl rfl rfl (by assumption)) ?_) | (refine AL.rp rfl rfl (rp_eqls rfl rfl rfl) ?_))
       refine AL.nil ?_
       try simp only [thenS, S.put]
       refine AW.condF rfl ?_
       refine AW.skip ?_
       try simp only [thenS]
       refine AW.seq ?_
       refine AW.seq ?_
       refine AW.region ?_
       refine AL.rp rfl rfl (rp_move rfl rfl) ?_
       (first | (refine AL.rp rfl rfl (rp_len_map Tryz.underlying9 rfl rfl (by assumption)) ?_) | (refine AL.rp rfl rfl (rp_len_own Tryz.underlying9 rfl rfl) ?_) | (refine AL.rp rfl rfl (rp_len_sl Tryz.underlying9 rfl rfl) ?_) | (refine AL.rp rfl rfl (rp_len_nil Tryz.underlying9 rfl rfl) ?_) | (refine AL.rp rfl rfl (rp_len_str Tryz.underlying9 rfl rfl) ?_))
       (first | (refine AL.rp rfl rfl (rp_gtrT rfl rfl rfl (by first | assumption | omega | (dsimp only; omega))) ?_) | (refine AL.rp rfl rfl (rp_gtrF rfl rfl rfl (by first | assumption | omega | (dsimp only; omega))) ?_) | (refine AL.rp rfl rfl (rp_gtr rfl rfl rfl) ?_))
       refine AL.nil ?_
       try simp only [thenS, S.put]
       refine AW.condF rfl ?_
       refine AW.skip ?_
       try simp only [thenS]
       refine AW.seq ?_
       refine AW.seq ?_
       refine AW.region ?_
       refine AL.rp rfl rfl (rp_move rfl rfl) ?_
       (first | (refine AL.rp rfl rfl (rp_eqlsT rfl rfl rfl (by assumption)) ?_) | (refine AL.rp rfl rfl (rp_eqlsF rfl rfl rfl (by assumption)) ?_) | (refine AL.rp rfl rfl (rp_eqls rfl rfl rfl) ?_))
       refine AL.rp rfl rfl (rp_move rfl rfl) ?_
       (first | (refine AL.noV rfl rfl rfl rfl ?_) | (refine AL.noU rfl ⟨_, rfl, rfl⟩ rfl ?_) | (refine AL.rpy rfl rfl rfl (rp_move rfl rfl) ?_))
       (first | (refine AL.no rfl rfl rfl rfl ?_) | (refine AL.noU rfl ⟨_, rfl, rfl⟩ rfl ?_) | (refine AL.cally (post := ?pc4) rfl rfl (sm_call (args := [_, _]) ?hc4 ⟨Tryz.func35, rfl, rfl, rfl, rfl⟩ rfl rfl rfl rfl) ?_; (case hc4 => (exact htc)); rintro _ rfl -; try dsimp only))
       (first | (refine AL.noV rfl rfl rfl rfl ?_) | (refine AL.noU rfl ⟨_, rfl, rfl⟩ rfl ?_) | (refine AL.rpy rfl rfl rfl (rp_neqsF rfl rfl rfl (by assumption)) ?_) | (refine AL.rpy rfl rfl rfl (rp_neqsT rfl rfl rfl (by assumption)) ?_) | (refine AL.rpy rfl rfl rfl (rp_neqs rfl rfl rfl) ?_))
       refine AL.rp rfl rfl (rp_pick rfl rfl rfl) ?_
       refine AL.rp rfl rfl (rp_move rfl rfl) ?_
       (first | (refine AL.noV rfl rfl rfl rfl ?_) | (refine AL.noU rfl ⟨_, rfl, rfl⟩ rfl ?_) | (refine AL.rpy rfl rfl rfl (rp_move rfl rfl) ?_))
       (first | (refine AL.noV rfl rfl rfl rfl ?_) | (refine AL.noU rfl ⟨_, rfl, rfl⟩ rfl ?_) | (refine AL.rpy rfl rfl rfl (rp_index_str Tryz.underlying9 rfl rfl rfl (by first | rfl | omega) (by assumption)) ?_))
       (first | (refine AL.noV rfl rfl rfl rfl ?_) | (refine AL.noU rfl ⟨_, rfl, rfl⟩ rfl ?_) | (refine AL.rpy rfl rfl rfl (rp_eqlT rfl rfl rfl (by first | assumption | omega | (dsimp only; omega))) ?_) | (refine AL.rpy rfl rfl rfl (rp_eqlF rfl rfl rfl (by first | assumption | omega | (dsimp only; omega))) ?_) | (refine AL.rpy rfl rfl rfl (rp_eql rfl rfl rfl) ?_))
       (first | (refine AL.noV rfl rfl rfl rfl ?_) | (refine AL.noU rfl ⟨_, rfl, rfl⟩ rfl ?_) | (refine AL.rpy rfl rfl rfl (rp_move rfl rfl) ?_))
       (first | (refine AL.noV rfl rfl rfl rfl ?_) | (refine AL.noU rfl ⟨_, rfl, rfl⟩ rfl ?_) | (refine AL.rpy rfl rfl rfl (rp_move rfl rfl) ?_))
       (first | (refine AL.noV rfl rfl rfl rfl ?_) | (refine AL.noU rfl ⟨_, rfl, rfl⟩ rfl ?_) | (refine AL.rpy rfl rfl rfl (rp_neqsF rfl rfl rfl (by assumption)) ?_) | (refine AL.rpy rfl rfl rfl (rp_neqsT rfl rfl rfl (by assumption)) ?_) | (refine AL.rpy rfl rfl rfl (rp_neqs rfl rfl rfl) ?_))
       (first | (refine AL.noV rfl rfl rfl rfl ?_) | (refine AL.noU rfl ⟨_, rfl, rfl⟩ rfl ?_) | (refine AL.rpy rfl rfl rfl (rp_pick rfl rfl rfl) ?_))
       refine AL.rp rfl rfl (rp_pick rfl rfl rfl) ?_
       refine AL.nil ?_
       try simp only [thenS, S.put, S.newObj, setL, V.cs, List.length_cons, List.length_nil, List.take_succ_cons, List.take_zero, List.drop_succ_cons, List.drop_zero, List.drop_nil, List.nil_append, List.cons_append, List.append_nil, Nat.zero_add, Nat.reduceAdd, List.map_cons, List.map_nil, List.set_cons_zero, List.set_cons_succ]
       refine AW.condF rfl ?_
       refine AW.skip ?_
       try simp only [thenS]
       refine AW.seq ?_
       refine AW.region ?_
       refine AL.rp rfl rfl (rp_move rfl rfl) ?_
       refine AL.call (post := ?pc5) rfl (sm_call (args := [_]) ?hc5 ⟨Tryz.func34, rfl, rfl, rfl, rfl⟩ rfl rfl rfl rfl) ?_
       case hc5 => exact hato
       rintro _ rfl -
       try dsimp only
       refine AL.rp rfl rfl (rp_move rfl rfl) ?_
       refine AL.rp rfl rfl (rp_extract rfl rfl rfl) ?_
       refine AL.rp rfl rfl (rp_extract rfl rfl rfl) ?_
       refine AL.rp rfl rfl (rp_assign rfl rfl) ?_
       refine AL.rp rfl rfl (rp_assign rfl rfl) ?_
       refine AL.nil ?_
       try simp only [thenS, S.put, S.newObj, setL, V.cs, List.length_cons, List.length_nil, List.take_succ_cons, List.take_zero, List.drop_succ_cons, List.drop_zero, List.drop_nil, List.nil_append, List.cons_append, List.append_nil, Nat.zero_add, Nat.reduceAdd, List.map_cons, List.map_nil, List.set_cons_zero, List.set_cons_succ]
       refine AW.seq ?_
       refine AW.seq ?_
       refine AW.region ?_
       refine AL.rp rfl rfl (rp_move rfl rfl) ?_
       refine AL.rp rfl rfl (rp_neqI0 Tryz.underlying72 rfl rfl rfl) ?_
       refine AL.rp rfl rfl (rp_move rfl rfl) ?_
       (first | (refine AL.noV rfl rfl rfl rfl ?_) | (refine AL.noU rfl ⟨_, rfl, rfl⟩ rfl ?_) | (refine AL.rpy rfl rfl rfl (rp_move rfl rfl) ?_))
       (first | (refine AL.noV rfl rfl rfl rfl ?_) | (refine AL.noU rfl ⟨_, rfl, rfl⟩ rfl ?_) | (refine AL.rpy rfl rfl rfl (rp_gtrT rfl rfl rfl (by first | assumption | omega | (dsimp only; omega))) ?_) | (refine AL.rpy rfl rfl rfl (rp_gtrF rfl rfl rfl (by first | assumption | omega | (dsimp only; omega))) ?_) | (refine AL.rpy rfl rfl rfl (rp_gtr rfl rfl rfl) ?_))
       refine AL.rp rfl rfl (rp_pick rfl rfl rfl) ?_
       refine AL.nil ?_
       try simp only [thenS, S.put]
       refine AW.condF rfl ?_
       refine AW.skip ?_
       try simp only [thenS]
       refine AW.seq ?_
       refine AW.region ?_
       refine AL.rp rfl rfl (rp_move rfl rfl) ?_
       refine AL.rp rfl rfl (rp_assign rfl rfl) ?_
       refine AL.rp rfl rfl (rp_assign rfl rfl) ?_
       refine AL.nil ?_
       try simp only [thenS, S.put]
       refine AW.ret ?_
       exact ⟨[_, _], ⟨rfl, rfl, trivial⟩, rfl, by simp [tupOf, V.pure, V.has, V.hasL]⟩
      ·have hs48 : str.data.toList ≠ (⟨#[48]⟩ : ByteArray).data.toList := by rw [hl]; exact hz2
       have hlen : 1 < l.length := by
        match l, he, hb0, hz2 with
        | [b], _, hb0, hz2 => simp at hb0; subst hb0; exact absurd (by rw [b48.1 hz1]) hz2
        | _ :: _ :: _, _, _, _ => simp
       have hR : numR l = -2 := by unfold numR; rw [if_neg (by omega), if_pos (.inr ⟨by rw [hb0, b48.1 hz1], hlen⟩)]
       rw [hR]
       refine Fn.intro (n := 39) ⟨Tryz.func19, rfl, rfl, rfl, rfl⟩ (by simp [V.pure, V.has, V.hasL]) (by simp) fun w0 out => ?_
       refine AW.seq ?_
       refine AW.region ?_
       refine AL.rp rfl rfl (rp_assign rfl rfl) ?_
       refine AL.rp rfl rfl (rp_assign rfl rfl) ?_
       refine AL.nil ?_
       try simp only [thenS, S.put, enum, List.nil_append, List.cons_append, List.append_nil, Nat.zero_add, Nat.reduceAdd]
       refine AW.seq ?_
       refine AW.seq ?_
       refine AW.region ?_
       refine AL.rp rfl rfl (rp_move rfl rfl) ?_
       (first | (refine AL.rp rfl rfl (rp_eqlsT rfl rfl rfl (by assumption)) ?_) | (refine AL.rp rfl rfl (rp_eqlsF rfl rfl rfl (by assumption)) ?_) | (refine AL.rp rfl rfl (rp_eqls rfl rfl rfl) ?_))
       refine AL.nil ?_
       try simp only [thenS, S.put]
       refine AW.condF rfl ?_
       refine AW.skip ?_
       try simp only [thenS]
       refine AW.seq ?_
       refine AW.seq ?_
       refine AW.region ?_
       refine AL.rp rfl rfl (rp_move rfl rfl) ?_
       (first | (refine AL.rp rfl rfl (rp_len_map Tryz.underlying9 rfl rfl (by assumption)) ?_) | (refine AL.rp rfl rfl (rp_len_own Tryz.underlying9 rfl rfl) ?_) | (refine AL.rp rfl rfl (rp_len_sl Tryz.underlying9 rfl rfl) ?_) | (refine AL.rp rfl rfl (rp_len_nil Tryz.underlying9 rfl rfl) ?_) | (refine AL.rp rfl rfl (rp_len_str Tryz.underlying9 rfl rfl) ?_))
       (first | (refine AL.rp rfl rfl (rp_gtrT rfl rfl rfl (by first | assumption | omega | (dsimp only; omega))) ?_) | (refine AL.rp rfl rfl (rp_gtrF rfl rfl rfl (by first | assumption | omega | (dsimp only; omega))) ?_) | (refine AL.rp rfl rfl (rp_gtr rfl rfl rfl) ?_))
       refine AL.nil ?_
       try simp only [thenS, S.put]
       refine AW.condF rfl ?_
       refine AW.skip ?_
       try simp only [thenS]
       refine AW.seq ?_
       refine AW.seq ?_
       refine AW.region ?_
       refine AL.rp rfl rfl (rp_move rfl rfl) ?_
       (first | (refine AL.rp rfl rfl (rp_eqlsT rfl rfl rfl (by assumption)) ?_) | (refine AL.rp rfl rfl (rp_eqlsF rfl rfl rfl (by assumption)) ?_) | (refine AL.rp rfl rfl (rp_eqls rfl rfl rfl) ?_))
       refine AL.rp rfl rfl (rp_move rfl rfl) ?_
       (first | (refine AL.noV rfl rfl rfl rfl ?_) | (refine AL.noU rfl ⟨_, rfl, rfl⟩ rfl ?_) | (refine AL.rpy rfl rfl rfl (rp_move rfl rfl) ?_))
       (first | (refine AL.no rfl rfl rfl rfl ?_) | (refine AL.noU rfl ⟨_, rfl, rfl⟩ rfl ?_) | (refine AL.cally (post := ?pc6) rfl rfl (sm_call (args := [_, _]) ?hc6 ⟨Tryz.func35, rfl, rfl, rfl, rfl⟩ rfl rfl rfl rfl) ?_; (case hc6 => (exact htc)); rintro _ rfl -; try dsimp only))
       (first | (refine AL.noV rfl rfl rfl rfl ?_) | (refine AL.noU rfl ⟨_, rfl, rfl⟩ rfl ?_) | (refine AL.rpy rfl rfl rfl (rp_neqsF rfl rfl rfl (by assumption)) ?_) | (refine AL.rpy rfl rfl rfl (rp_neqsT rfl rfl rfl (by assumption)) ?_) | (refine AL.rpy rfl rfl rfl (rp_neqs rfl rfl rfl) ?_))
       refine AL.rp rfl rfl (rp_pick rfl rfl rfl) ?_
       refine AL.rp rfl rfl (rp_move rfl rfl) ?_
       (first | (refine AL.noV rfl rfl rfl rfl ?_) | (refine AL.noU rfl ⟨_, rfl, rfl⟩ rfl ?_) | (refine AL.rpy rfl rfl rfl (rp_move rfl rfl) ?_))
       (first | (refine AL.noV rfl rfl rfl rfl ?_) | (refine AL.noU rfl ⟨_, rfl, rfl⟩ rfl ?_) | (refine AL.rpy rfl rfl rfl (rp_index_str Tryz.underlying9 rfl rfl rfl (by first | rfl | omega) (by assumption)) ?_))
       (first | (refine AL.noV rfl rfl rfl rfl ?_) | (refine AL.noU rfl ⟨_, rfl, rfl⟩ rfl ?_) | (refine AL.rpy rfl rfl rfl (rp_eqlT rfl rfl rfl (by first | assumption | omega | (dsimp only; omega))) ?_) | (refine AL.rpy rfl rfl rfl (rp_eqlF rfl rfl rfl (by first | assumption | omega | (dsimp only; omega))) ?_) | (refine AL.rpy rfl rfl rfl (rp_eql rfl rfl rfl) ?_))
       (first | (refine AL.noV rfl rfl rfl rfl ?_) | (refine AL.noU rfl ⟨_, rfl, rfl⟩ rfl ?_) | (refine AL.rpy rfl rfl rfl (rp_move rfl rfl) ?_))
       (first | (refine AL.noV rfl rfl rfl rfl ?_) | (refine AL.noU rfl ⟨_, rfl, rfl⟩ rfl ?_) | (refine AL.rpy rfl rfl rfl (rp_move rfl rfl) ?_))
       (first | (refine AL.noV rfl rfl rfl rfl ?_) | (refine AL.noU rfl ⟨_, rfl, rfl⟩ rfl ?_) | (refine AL.rpy rfl rfl rfl (rp_neqsF rfl rfl rfl (by assumption)) ?_) | (refine AL.rpy rfl rfl rfl (rp_neqsT rfl rfl rfl (by assumption)) ?_) | (refine AL.rpy rfl rfl rfl (rp_neqs rfl rfl rfl) ?_))
       (first | (refine AL.noV rfl rfl rfl rfl ?_) | (refine AL.noU rfl ⟨_, rfl, rfl⟩ rfl ?_) | (refine AL.rpy rfl rfl rfl (rp_pick rfl rfl rfl) ?_))
       refine AL.rp rfl rfl (rp_pick rfl rfl rfl) ?_
       refine AL.nil ?_
       try simp only [thenS, S.put, S.newObj, setL, V.cs, List.length_cons, List.length_nil, List.take_succ_cons, List.take_zero, List.drop_succ_cons, List.drop_zero, List.drop_nil, List.nil_append, List.cons_append, List.append_nil, Nat.zero_add, Nat.reduceAdd, List.map_cons, List.map_nil, List.set_cons_zero, List.set_cons_succ]
       refine AW.condT rfl ?_
       refine AW.seq ?_
       refine AW.region ?_
       refine AL.rp rfl rfl (rp_assign rfl rfl) ?_
       refine AL.rp rfl rfl (rp_assign rfl rfl) ?_
       refine AL.nil ?_
       try simp only [thenS, S.put]
       refine AW.ret ?_
       exact ⟨[_, _], ⟨rfl, rfl, trivial⟩, rfl, by simp [tupOf, V.pure, V.has, V.hasL]⟩
     ·have hR : numR l = if 1000000000 < v then (1000000001 : Int) else (v : Int) := by
       unfold numR
       rw [if_neg (by omega), if_neg, hv]
       rintro (h | ⟨h3, h4⟩)
       ·exact he h
       ·rw [hb0] at h3
        exact hz1 (b48.2 (by simpa using h3))
      by_cases hbig : 1000000000 < v
      ·rw [if_pos hbig] at hR
       rw [hR]
       refine Fn.intro (n := 39) ⟨Tryz.func19, rfl, rfl, rfl, rfl⟩ (by simp [V.pure, V.has, V.hasL]) (by simp) fun w0 out => ?_
       refine AW.seq ?_
       refine AW.region ?_
       refine AL.rp rfl rfl (rp_assign rfl rfl) ?_
       refine AL.rp rfl rfl (rp_assign rfl rfl) ?_
       refine AL.nil ?_
       try simp only [thenS, S.put, enum, List.nil_append, List.cons_append, List.append_nil, Nat.zero_add, Nat.reduceAdd]
       refine AW.seq ?_
       refine AW.seq ?_
       refine AW.region ?_
       refine AL.rp rfl rfl (rp_move rfl rfl) ?_
       (first | (refine AL.rp rfl rfl (rp_eqlsT rfl rfl rfl (by assumption)) ?_) | (refine AL.rp rfl rfl (rp_eqlsF rfl rfl rfl (by assumption)) ?_) | (refine AL.rp rfl rfl (rp_eqls rfl rfl rfl) ?_))
       refine AL.nil ?_
       try simp only [thenS, S.put]
       refine AW.condF rfl ?_
       refine AW.skip ?_
       try simp only [thenS]
       refine AW.seq ?_
       refine AW.seq ?_
       refine AW.region ?_
       refine AL.rp rfl rfl (rp_move rfl rfl) ?_
       (first | (refine AL.rp rfl rfl (rp_len_map Tryz.underlying9 rfl rfl (by assumption)) ?_) | (refine AL.rp rfl rfl (rp_len_own Tryz.underlying9 rfl rfl) ?_) | (refine AL.rp rfl rfl (rp_len_sl Tryz.underlying9 rfl rfl) ?_) | (refine AL.rp rfl rfl (rp_len_nil Tryz.underlying9 rfl rfl) ?_) | (refine AL.rp rfl rfl (rp_len_str Tryz.underlying9 rfl rfl) ?_))
       (first | (refine AL.rp rfl rfl (rp_gtrT rfl rfl rfl (by first | assumption | omega | (dsimp only; omega))) ?_) | (refine AL.rp rfl rfl (rp_gtrF rfl rfl rfl (by first | assumption | omega | (dsimp only; omega))) ?_) | (refine AL.rp rfl rfl (rp_gtr rfl rfl rfl) ?_))
       refine AL.nil ?_
       try simp only [thenS, S.put]
       refine AW.condF rfl ?_
       refine AW.skip ?_
       try simp only [thenS]
       refine AW.seq ?_
       refine AW.seq ?_
       refine AW.region ?_
       refine AL.rp rfl rfl (rp_move rfl rfl) ?_
       (first | (refine AL.rp rfl rfl (rp_eqlsT rfl rfl rfl (by assumption)) ?_) | (refine AL.rp rfl rfl (rp_eqlsF rfl rfl rfl (by assumption)) ?_) | (refine AL.rp rfl rfl (rp_eqls rfl rfl rfl) ?_))
       refine AL.rp rfl rfl (rp_move rfl rfl) ?_
       (first | (refine AL.noV rfl rfl rfl rfl ?_) | (refine AL.noU rfl ⟨_, rfl, rfl⟩ rfl ?_) | (refine AL.rpy rfl rfl rfl (rp_move rfl rfl) ?_))
       (first | (refine AL.no rfl rfl rfl rfl ?_) | (refine AL.noU rfl ⟨_, rfl, rfl⟩ rfl ?_) | (refine AL.cally (post := ?pc7) rfl rfl (sm_call (args := [_, _]) ?hc7 ⟨Tryz.func35, rfl, rfl, rfl, rfl⟩ rfl rfl rfl rfl) ?_; (case hc7 => (exact htc)); rintro _ rfl -; try dsimp only))
       (first | (refine AL.noV rfl rfl rfl rfl ?_) | (refine AL.noU rfl ⟨_, rfl, rfl⟩ rfl ?_) | (refine AL.rpy rfl rfl rfl (rp_neqsF rfl rfl rfl (by assumption)) ?_) | (refine AL.rpy rfl rfl rfl (rp_neqsT rfl rfl rfl (by assumption)) ?_) | (refine AL.rpy rfl rfl rfl (rp_neqs rfl rfl rfl) ?_))
       refine AL.rp rfl rfl (rp_pick rfl rfl rfl) ?_
       refine AL.rp rfl rfl (rp_move rfl rfl) ?_
       (first | (refine AL.noV rfl rfl rfl rfl ?_) | (refine AL.noU rfl ⟨_, rfl, rfl⟩ rfl ?_) | (refine AL.rpy rfl rfl rfl (rp_move rfl rfl) ?_))
       (first | (refine AL.noV rfl rfl rfl rfl ?_) | (refine AL.noU rfl ⟨_, rfl, rfl⟩ rfl ?_) | (refine AL.rpy rfl rfl rfl (rp_index_str Tryz.underlying9 rfl rfl rfl (by first | rfl | omega) (by assumption)) ?_))
       (first | (refine AL.noV rfl rfl rfl rfl ?_) | (refine AL.noU rfl ⟨_, rfl, rfl⟩ rfl ?_) | (refine AL.rpy rfl rfl rfl (rp_eqlT rfl rfl rfl (by first | assumption | omega | (dsimp only; omega))) ?_) | (refine AL.rpy rfl rfl rfl (rp_eqlF rfl rfl rfl (by first | assumption | omega | (dsimp only; omega))) ?_) | (refine AL.rpy rfl rfl rfl (rp_eql rfl rfl rfl) ?_))
       (first | (refine AL.noV rfl rfl rfl rfl ?_) | (refine AL.noU rfl ⟨_, rfl, rfl⟩ rfl ?_) | (refine AL.rpy rfl rfl rfl (rp_move rfl rfl) ?_))
       (first | (refine AL.noV rfl rfl rfl rfl ?_) | (refine AL.noU rfl ⟨_, rfl, rfl⟩ rfl ?_) | (refine AL.rpy rfl rfl rfl (rp_move rfl rfl) ?_))
       (first | (refine AL.noV rfl rfl rfl rfl ?_) | (refine AL.noU rfl ⟨_, rfl, rfl⟩ rfl ?_) | (refine AL.rpy rfl rfl rfl (rp_neqsF rfl rfl rfl (by assumption)) ?_) | (refine AL.rpy rfl rfl rfl (rp_neqsT rfl rfl rfl (by assumption)) ?_) | (refine AL.rpy rfl rfl rfl (rp_neqs rfl rfl rfl) ?_))
       (first | (refine AL.noV rfl rfl rfl rfl ?_) | (refine AL.noU rfl ⟨_, rfl, rfl⟩ rfl ?_) | (refine AL.rpy rfl rfl rfl (rp_pick rfl rfl rfl) ?_))
       refine AL.rp rfl rfl (rp_pick rfl rfl rfl) ?_
       refine AL.nil ?_
       try simp only [thenS, S.put, S.newObj, setL, V.cs, List.length_cons, List.length_nil, List.take_succ_cons, List.take_zero, List.drop_succ_cons, List.drop_zero, List.drop_nil, List.nil_append, List.cons_append, List.append_nil, Nat.zero_add, Nat.reduceAdd, List.map_cons, List.map_nil, List.set_cons_zero, List.set_cons_succ]
       refine AW.condF rfl ?_
       refine AW.skip ?_
       try simp only [thenS]
       refine AW.seq ?_
       refine AW.region ?_
       refine AL.rp rfl rfl (rp_move rfl rfl) ?_
       refine AL.call (post := ?pc8) rfl (sm_call (args := [_]) ?hc8 ⟨Tryz.func34, rfl, rfl, rfl, rfl⟩ rfl rfl rfl rfl) ?_
       case hc8 => exact hato
       rintro _ rfl -
       try dsimp only
       refine AL.rp rfl rfl (rp_move rfl rfl) ?_
       refine AL.rp rfl rfl (rp_extract rfl rfl rfl) ?_
       refine AL.rp rfl rfl (rp_extract rfl rfl rfl) ?_
       refine AL.rp rfl rfl (rp_assign rfl rfl) ?_
       refine AL.rp rfl rfl (rp_assign rfl rfl) ?_
       refine AL.nil ?_
       try simp only [thenS, S.put, S.newObj, setL, V.cs, List.length_cons, List.length_nil, List.take_succ_cons, List.take_zero, List.drop_succ_cons, List.drop_zero, List.drop_nil, List.nil_append, List.cons_append, List.append_nil, Nat.zero_add, Nat.reduceAdd, List.map_cons, List.map_nil, List.set_cons_zero, List.set_cons_succ]
       refine AW.seq ?_
       refine AW.seq ?_
       refine AW.region ?_
       refine AL.rp rfl rfl (rp_move rfl rfl) ?_
       refine AL.rp rfl rfl (rp_neqI0 Tryz.underlying72 rfl rfl rfl) ?_
       refine AL.rp rfl rfl (rp_move rfl rfl) ?_
       (first | (refine AL.noV rfl rfl rfl rfl ?_) | (refine AL.noU rfl ⟨_, rfl, rfl⟩ rfl ?_) | (refine AL.rpy rfl rfl rfl (rp_move rfl rfl) ?_))
       (first | (refine AL.noV rfl rfl rfl rfl ?_) | (refine AL.noU rfl ⟨_, rfl, rfl⟩ rfl ?_) | (refine AL.rpy rfl rfl rfl (rp_gtrT rfl rfl rfl (by first | assumption | omega | (dsimp only; omega))) ?_) | (refine AL.rpy rfl rfl rfl (rp_gtrF rfl rfl rfl (by first | assumption | omega | (dsimp only; omega))) ?_) | (refine AL.rpy rfl rfl rfl (rp_gtr rfl rfl rfl) ?_))
       refine AL.rp rfl rfl (rp_pick rfl rfl rfl) ?_
       refine AL.nil ?_
       try simp only [thenS, S.put]
       refine AW.condT rfl ?_
       refine AW.seq ?_
       refine AW.region ?_
       refine AL.rp rfl rfl (rp_assign rfl rfl) ?_
       refine AL.rp rfl rfl (rp_assign rfl rfl) ?_
       refine AL.nil ?_
       try simp only [thenS, S.put]
       refine AW.ret ?_
       exact ⟨[_, _], ⟨rfl, rfl, trivial⟩, rfl, by simp [tupOf, V.pure, V.has, V.hasL]⟩
      ·rw [if_neg hbig] at hR
       rw [hR, if_neg (by omega), if_neg (by omega), if_neg (by omega), if_neg (by omega)]
       refine Fn.intro (n := 39) ⟨Tryz.func19, rfl, rfl, rfl, rfl⟩ (by simp [V.pure, V.has, V.hasL]) (by simp) fun w0 out => ?_
       refine AW.seq ?_
       refine AW.region ?_
       refine AL.rp rfl rfl (rp_assign rfl rfl) ?_
       refine AL.rp rfl rfl (rp_assign rfl rfl) ?_
       refine AL.nil ?_
       try simp only [thenS, S.put, enum, List.nil_append, List.cons_append, List.append_nil, Nat.zero_add, Nat.reduceAdd]
       refine AW.seq ?_
       refine AW.seq ?_
       refine AW.region ?_
       refine AL.rp rfl rfl (rp_move rfl rfl) ?_
       (first | (refine AL.rp rfl rfl (rp_eqlsT rfl rfl rfl (by assumption)) ?_) | (refine AL.rp rfl rfl (rp_eqlsF rfl rfl rfl (by assumption)) ?_) | (refine AL.rp rfl rfl (rp_eqls rfl rfl rfl) ?_))
       refine AL.nil ?_
       try simp only [thenS, S.put]
       refine AW.condF rfl ?_
       refine AW.skip ?_
       try simp only [thenS]
       refine AW.seq ?_
       refine AW.seq ?_
       refine AW.region ?_
       refine AL.rp rfl rfl (rp_move rfl rfl) ?_
       (first | (refine AL.rp rfl rfl (rp_len_map Tryz.underlying9 rfl rfl (by assumption)) ?_) | (refine AL.rp rfl rfl (rp_len_own Tryz.underlying9 rfl rfl) ?_) | (refine AL.rp rfl rfl (rp_len_sl Tryz.underlying9 rfl rfl) ?_) | (refine AL.rp rfl rfl (rp_len_nil Tryz.underlying9 rfl rfl) ?_) | (refine AL.rp rfl rfl (rp_len_str Tryz.underlying9 rfl rfl) ?_))
       (first | (refine AL.rp rfl rfl (rp_gtrT rfl rfl rfl (by first | assumption | omega | (dsimp only; omega))) ?_) | (refine AL.rp rfl rfl (rp_gtrF rfl rfl rfl (by first | assumption | omega | (dsimp only; omega))) ?_) | (refine AL.rp rfl rfl (rp_gtr rfl rfl rfl) ?_))
       refine AL.nil ?_
       try simp only [thenS, S.put]
       refine AW.condF rfl ?_
       refine AW.skip ?_
       try simp only [thenS]
       refine AW.seq ?_
       refine AW.seq ?_
       refine AW.region ?_
       refine AL.rp rfl rfl (rp_move rfl rfl) ?_
       (first | (refine AL.rp rfl rfl (rp_eqlsT rfl rfl rfl (by assumption)) ?_) | (refine AL.rp rfl rfl (rp_eqlsF rfl rfl rfl (by assumption)) ?_) | (refine AL.rp rfl rfl (rp_eqls rfl rfl rfl) ?_))
       refine AL.rp rfl rfl (rp_move rfl rfl) ?_
       (first | (refine AL.noV rfl rfl rfl rfl ?_) | (refine AL.noU rfl ⟨_, rfl, rfl⟩ rfl ?_) | (refine AL.rpy rfl rfl rfl (rp_move rfl rfl) ?_))
       (first | (refine AL.no rfl rfl rfl rfl ?_) | (refine AL.noU rfl ⟨_, rfl, rfl⟩ rfl ?_) | (refine AL.cally (post := ?pc9) rfl rfl (sm_call (args := [_, _]) ?hc9 ⟨Tryz.func35, rfl, rfl, rfl, rfl⟩ rfl rfl rfl rfl) ?_; (case hc9 => (exact htc)); rintro _ rfl -; try dsimp only))
       (first | (refine AL.noV rfl rfl rfl rfl ?_) | (refine AL.noU rfl ⟨_, rfl, rfl⟩ rfl ?_) | (refine AL.rpy rfl rfl rfl (rp_neqsF rfl rfl rfl (by assumption)) ?_) | (refine AL.rpy rfl rfl rfl (rp_neqsT rfl rfl rfl (by assumption)) ?_) | (refine AL.rpy rfl rfl rfl (rp_neqs rfl rfl rfl) ?_))
       refine AL.rp rfl rfl (rp_pick rfl rfl rfl) ?_
       refine AL.rp rfl rfl (rp_move rfl rfl) ?_
       (first | (refine AL.noV rfl rfl rfl rfl ?_) | (refine AL.noU rfl ⟨_, rfl, rfl⟩ rfl ?_) | (refine AL.rpy rfl rfl rfl (rp_move rfl rfl) ?_))
       (first | (refine AL.noV rfl rfl rfl rfl ?_) | (refine AL.noU rfl ⟨_, rfl, rfl⟩ rfl ?_) | (refine AL.rpy rfl rfl rfl (rp_index_str Tryz.underlying9 rfl rfl rfl (by first | rfl | omega) (by assumption)) ?_))
       (first | (refine AL.noV rfl rfl rfl rfl ?_) | (refine AL.noU rfl ⟨_, rfl, rfl⟩ rfl ?_) | (refine AL.rpy rfl rfl rfl (rp_eqlT rfl rfl rfl (by first | assumption | omega | (dsimp only; omega))) ?_) | (refine AL.rpy rfl rfl rfl (rp_eqlF rfl rfl rfl (by first | assumption | omega | (dsimp only; omega))) ?_) | (refine AL.rpy rfl rfl rfl (rp_eql rfl rfl rfl) ?_))
       (first | (refine AL.noV rfl rfl rfl rfl ?_) | (refine AL.noU rfl ⟨_, rfl, rfl⟩ rfl ?_) | (refine AL.rpy rfl rfl rfl (rp_move rfl rfl) ?_))
       (first | (refine AL.noV rfl rfl rfl rfl ?_) | (refine AL.noU rfl ⟨_, rfl, rfl⟩ rfl ?_) | (refine AL.rpy rfl rfl rfl (rp_move rfl rfl) ?_))
       (first | (refine AL.noV rfl rfl rfl rfl ?_) | (refine AL.noU rfl ⟨_, rfl, rfl⟩ rfl ?_) | (refine AL.rpy rfl rfl rfl (rp_neqsF rfl rfl rfl (by assumption)) ?_) | (refine AL.rpy rfl rfl rfl (rp_neqsT rfl rfl rfl (by assumption)) ?_) | (refine AL.rpy rfl rfl rfl (rp_neqs rfl rfl rfl) ?_))
       (first | (refine AL.noV rfl rfl rfl rfl ?_) | (refine AL.noU rfl ⟨_, rfl, rfl⟩ rfl ?_) | (refine AL.rpy rfl rfl rfl (rp_pick rfl rfl rfl) ?_))
       refine AL.rp rfl rfl (rp_pick rfl rfl rfl) ?_
       refine AL.nil ?_
       try simp only [thenS, S.put, S.newObj, setL, V.cs, List.length_cons, List.length_nil, List.take_succ_cons, List.take_zero, List.drop_succ_cons, List.drop_zero, List.drop_nil, List.nil_append, List.cons_append, List.append_nil, Nat.zero_add, Nat.reduceAdd, List.map_cons, List.map_nil, List.set_cons_zero, List.set_cons_succ]
       refine AW.condF rfl ?_
       refine AW.skip ?_
       try simp only [thenS]
       refine AW.seq ?_
       refine AW.region ?_
       refine AL.rp rfl rfl (rp_move rfl rfl) ?_
       refine AL.call (post := ?pc10) rfl (sm_call (args := [_]) ?hc10 ⟨Tryz.func34, rfl, rfl, rfl, rfl⟩ rfl rfl rfl rfl) ?_
       case hc10 => exact hato
       rintro _ rfl -
       try dsimp only
       refine AL.rp rfl rfl (rp_move rfl rfl) ?_
       refine AL.rp rfl rfl (rp_extract rfl rfl rfl) ?_
       refine AL.rp rfl rfl (rp_extract rfl rfl rfl) ?_
       refine AL.rp rfl rfl (rp_assign rfl rfl) ?_
       refine AL.rp rfl rfl (rp_assign rfl rfl) ?_
       refine AL.nil ?_
       try simp only [thenS, S.put, S.newObj, setL, V.cs, List.length_cons, List.length_nil, List.take_succ_cons, List.take_zero, List.drop_succ_cons, List.drop_zero, List.drop_nil, List.nil_append, List.cons_append, List.append_nil, Nat.zero_add, Nat.reduceAdd, List.map_cons, List.map_nil, List.set_cons_zero, List.set_cons_succ]
       refine AW.seq ?_
       refine AW.seq ?_
       refine AW.region ?_
       refine AL.rp rfl rfl (rp_move rfl rfl) ?_
       refine AL.rp rfl rfl (rp_neqI0 Tryz.underlying72 rfl rfl rfl) ?_
       refine AL.rp rfl rfl (rp_move rfl rfl) ?_
       (first | (refine AL.noV rfl rfl rfl rfl ?_) | (refine AL.noU rfl ⟨_, rfl, rfl⟩ rfl ?_) | (refine AL.rpy rfl rfl rfl (rp_move rfl rfl) ?_))
       (first | (refine AL.noV rfl rfl rfl rfl ?_) | (refine AL.noU rfl ⟨_, rfl, rfl⟩ rfl ?_) | (refine AL.rpy rfl rfl rfl (rp_gtrT rfl rfl rfl (by first | assumption | omega | (dsimp only; omega))) ?_) | (refine AL.rpy rfl rfl rfl (rp_gtrF rfl rfl rfl (by first | assumption | omega | (dsimp only; omega))) ?_) | (refine AL.rpy rfl rfl rfl (rp_gtr rfl rfl rfl) ?_))
       refine AL.rp rfl rfl (rp_pick rfl rfl rfl) ?_
       refine AL.nil ?_
       try simp only [thenS, S.put]
       refine AW.condF rfl ?_
       refine AW.skip ?_
       try simp only [thenS]
       refine AW.seq ?_
       refine AW.region ?_
       refine AL.rp rfl rfl (rp_move rfl rfl) ?_
       refine AL.rp rfl rfl (rp_assign rfl rfl) ?_
       refine AL.rp rfl rfl (rp_assign rfl rfl) ?_
       refine AL.nil ?_
       try simp only [thenS, S.put]
       refine AW.ret ?_
       exact ⟨[_, _], ⟨rfl, rfl, trivial⟩, rfl, by simp [tupOf, V.pure, V.has, V.hasL]⟩
    ·have ht0 : tr.data.toList ≠ (⟨#[]⟩ : ByteArray).data.toList := by
      rw [htl]
      intro h
      exact hall fun x hx => (digs_has x).1 ((trim_nil l digs).1 h x hx)
     have hR : numR l = -2 := by
      obtain ⟨x, hx, hxn⟩ : ∃ x ∈ l, ¬ (48 ≤ x.toNat ∧ x.toNat ≤ 57) := by
       apply Classical.byContradiction
       intro h
       exact hall fun x hx => Classical.byContradiction fun h2 => h ⟨x, hx, h2⟩
      obtain ⟨k, hk⟩ := List.getElem?_of_mem hx
      have := dec_none hk hxn
      unfold numR
      rw [if_neg (by omega), this]
      split <;> rfl
     rw [hR]
     refine Fn.intro (n := 39) ⟨Tryz.func19, rfl, rfl, rfl, rfl⟩ (by simp [V.pure, V.has, V.hasL]) (by simp) fun w0 out => ?_
     refine AW.seq ?_
     refine AW.region ?_
     refine AL.rp rfl rfl (rp_assign rfl rfl) ?_
     refine AL.rp rfl rfl (rp_assign rfl rfl) ?_
     refine AL.nil ?_
     try simp only [thenS, S.put, enum, List.nil_append, List.cons_append, List.append_nil, Nat.zero_add, Nat.reduceAdd]
     refine AW.seq ?_
     refine AW.seq ?_
     refine AW.region ?_
     refine AL.rp rfl rfl (rp_move rfl rfl) ?_
     (first | (refine AL.rp rfl rfl (rp_eqlsT rfl rfl rfl (by assumption)) ?_) | (refine AL.rp rfl rfl (rp_eqlsF rfl rfl rfl (by assumption)) ?_) | (refine AL.rp rfl rfl (rp_eqls rfl rfl rfl) ?_))
     refine AL.nil ?_
     try simp only [thenS, S.put]
     refine AW.condF rfl ?_
     refine AW.skip ?_
     try simp only [thenS]
     refine AW.seq ?_
     refine AW.seq ?_
     refine AW.region ?_
     refine AL.rp rfl rfl (rp_move rfl rfl) ?_
     (first | (refine AL.rp rfl rfl (rp_len_map Tryz.underlying9 rfl rfl (by assumption)) ?_) | (refine AL.rp rfl rfl (rp_len_own Tryz.underlying9 rfl rfl) ?_) | (refine AL.rp rfl rfl (rp_len_sl Tryz.underlying9 rfl rfl) ?_) | (refine AL.rp rfl rfl (rp_len_nil Tryz.underlying9 rfl rfl) ?_) | (refine AL.rp rfl rfl (rp_len_str Tryz.underlying9 rfl rfl) ?_))
     (first | (refine AL.rp rfl rfl (rp_gtrT rfl rfl rfl (by first | assumption | omega | (dsimp only; omega))) ?_) | (refine AL.rp rfl rfl (rp_gtrF rfl rfl rfl (by first | assumption | omega | (dsimp only; omega))) ?_) | (refine AL.rp rfl rfl (rp_gtr rfl rfl rfl) ?_))
     refine AL.nil ?_
     try simp only [thenS, S.put]
     refine AW.condF rfl ?_
     refine AW.skip ?_
     try simp only [thenS]
     refine AW.seq ?_
     refine AW.seq ?_
     refine AW.region ?_
     refine AL.rp rfl rfl (rp_move rfl rfl) ?_
     (first | (refine AL.rp rfl rfl (rp_eqlsT rfl rfl rfl (by assumption)) ?_) | (refine AL.rp rfl rfl (rp_eqlsF rfl rfl rfl (by assumption)) ?_) | (refine AL.rp rfl rfl (rp_eqls rfl rfl rfl) ?_))
     refine AL.rp rfl rfl (rp_move rfl rfl) ?_
     (first | (refine AL.noV rfl rfl rfl rfl ?_) | (refine AL.noU rfl ⟨_, rfl, rfl⟩ rfl ?_) | (refine AL.rpy rfl rfl rfl (rp_move rfl rfl) ?_))
     (first | (refine AL.no rfl rfl rfl rfl ?_) | (refine AL.noU rfl ⟨_, rfl, rfl⟩ rfl ?_) | (refine AL.cally (post := ?pc11) rfl rfl (sm_call (args := [_, _]) ?hc11 ⟨Tryz.func35, rfl, rfl, rfl, rfl⟩ rfl rfl rfl rfl) ?_; (case hc11 => (exact htc)); rintro _ rfl -; try dsimp only))
     (first | (refine AL.noV rfl rfl rfl rfl ?_) | (refine AL.noU rfl ⟨_, rfl, rfl⟩ rfl ?_) | (refine AL.rpy rfl rfl rfl (rp_neqsF rfl rfl rfl (by assumption)) ?_) | (refine AL.rpy rfl rfl rfl (rp_neqsT rfl rfl rfl (by assumption)) ?_) | (refine AL.rpy rfl rfl rfl (rp_neqs rfl rfl rfl) ?_))
     refine AL.rp rfl rfl (rp_pick rfl rfl rfl) ?_
     refine AL.rp rfl rfl (rp_move rfl rfl) ?_
     (first | (refine AL.noV rfl rfl rfl rfl ?_) | (refine AL.noU rfl ⟨_, rfl, rfl⟩ rfl ?_) | (refine AL.rpy rfl rfl rfl (rp_move rfl rfl) ?_))
     (first | (refine AL.noV rfl rfl rfl rfl ?_) | (refine AL.noU rfl ⟨_, rfl, rfl⟩ rfl ?_) | (refine AL.rpy rfl rfl rfl (rp_index_str Tryz.underlying9 rfl rfl rfl (by first | rfl | omega) (by assumption)) ?_))
     (first | (refine AL.noV rfl rfl rfl rfl ?_) | (refine AL.noU rfl ⟨_, rfl, rfl⟩ rfl ?_) | (refine AL.rpy rfl rfl rfl (rp_eqlT rfl rfl rfl (by first | assumption | omega | (dsimp only; omega))) ?_) | (refine AL.rpy rfl rfl rfl (rp_eqlF rfl rfl rfl (by first | assumption | omega | (dsimp only; omega))) ?_) | (refine AL.rpy rfl rfl rfl (rp_eql rfl rfl rfl) ?_))
     (first | (refine AL.noV rfl rfl rfl rfl ?_) | (refine AL.noU rfl ⟨_, rfl, rfl⟩ rfl ?_) | (refine AL.rpy rfl rfl rfl (rp_move rfl rfl) ?_))
     (first | (refine AL.noV rfl rfl rfl rfl ?_) | (refine AL.noU rfl ⟨_, rfl, rfl⟩ rfl ?_) | (refine AL.rpy rfl rfl rfl (rp_move rfl rfl) ?_))
     (first | (refine AL.noV rfl rfl rfl rfl ?_) | (refine AL.noU rfl ⟨_, rfl, rfl⟩ rfl ?_) | (refine AL.rpy rfl rfl rfl (rp_neqsF rfl rfl rfl (by assumption)) ?_) | (refine AL.rpy rfl rfl rfl (rp_neqsT rfl rfl rfl (by assumption)) ?_) | (refine AL.rpy rfl rfl rfl (rp_neqs rfl rfl rfl) ?_))
     (first | (refine AL.noV rfl rfl rfl rfl ?_) | (refine AL.noU rfl ⟨_, rfl, rfl⟩ rfl ?_) | (refine AL.rpy rfl rfl rfl (rp_pick rfl rfl rfl) ?_))
     refine AL.rp rfl rfl (rp_pick rfl rfl rfl) ?_
     refine AL.nil ?_
     try simp only [thenS, S.put, S.newObj, setL, V.cs, List.length_cons, List.length_nil, List.take_succ_cons, List.take_zero, List.drop_succ_cons, List.drop_zero, List.drop_nil, List.nil_append, List.cons_append, List.append_nil, Nat.zero_add, Nat.reduceAdd, List.map_cons, List.map_nil, List.set_cons_zero, List.set_cons_succ]
     refine AW.condT rfl ?_
     refine AW.seq ?_
     refine AW.region ?_
     refine AL.rp rfl rfl (rp_assign rfl rfl) ?_
     refine AL.rp rfl rfl (rp_assign rfl rfl) ?_
     refine AL.nil ?_
     try simp only [thenS, S.put]
     refine AW.ret ?_
     exact ⟨[_, _], ⟨rfl, rfl, trivial⟩, rfl, by simp [tupOf, V.pure, V.has, V.hasL]⟩
end Go.Proofs.YtkikceoccmoanaaGreatDoor
