/- Part 4 of what the law PaperReads rests on. -/
import Derived.Laws.DeepStrings4
import Derived.Lib.Atoi
import Derived.Lib.AtoiTie
import Derived.Lib.ItoaNum
import Derived.Shelf.Strconv.Itoa3
import Derived.Test.YtkikceoccmoanaaGreatDoorProg
import Derived.Lib.LaidTab
import Derived.Test.YtkikceoccmoanaaGreatDoorPkPa1
import Derived.Test.YtkikceoccmoanaaGreatDoorPkPa2
import Derived.Test.YtkikceoccmoanaaGreatDoorPkPa3
namespace Go.Proofs.YtkikceoccmoanaaGreatDoor
open Go.RowKit
set_option linter.unusedSimpArgs false
set_option linter.unusedVariables false
set_option maxRecDepth 100000

/-- Where the piece begins that is open at i, pieces being parted by c; the pieces before it. -/
def frm (c : UInt8) (t : List UInt8) : Nat → Nat
 | 0 => 0
 | i + 1 => if t[i]? = some c then i + 1 else frm c t i
def pcs (c : UInt8) (t : List UInt8) : Nat → List (List UInt8)
 | 0 => []
 | i + 1 => if t[i]? = some c then pcs c t i ++ [(t.take i).drop (frm c t i)] else pcs c t i
theorem frm_le (c : UInt8) (t : List UInt8) : ∀ i, frm c t i ≤ i
 | 0 => Nat.le_refl 0
 | i + 1 => by
  unfold frm
  have := frm_le c t i
  split <;> omega
theorem pcs_len (c : UInt8) (t : List UInt8) : ∀ i, (pcs c t i).length ≤ i
 | 0 => Nat.le_refl 0
 | i + 1 => by
  unfold pcs
  have := pcs_len c t i
  split
  ·simp; omega
  ·omega
def strsD (l : List (List UInt8)) : D := .sl 1 16 (l.map fun b => [.p (.string (bs b))])
def strsC (l : List (List UInt8)) : List V := l.map fun b => .s (bs b)
@[simp] theorem hasL_strsC (r : Nat) (l : List (List UInt8)) : V.hasL r (strsC l) = false := V.hasL_false.2 fun d hd => by
 obtain ⟨x, _, rfl⟩ := List.mem_map.1 hd
 rfl
@[simp] theorem strsC_len (l : List (List UInt8)) : (strsC l).length = l.length := by simp [strsC]
section
variable {c : Cx} {s : S} {o : Oper}
theorem bs_sub (l : List UInt8) (i j : Nat) (h : j ≤ l.length) : (bs l).extract i j = bs ((l.take j).drop i) := bs_ext (by rw [Lib.extract_data, bs_list, bs_list, List.drop_take])
theorem rp_slice_strb {t : TypeId} {x y z : Operand} {l : List UInt8} {i j : Nat} {m n : Int} (hu : c.P.underlying t = some .string) (ho : o.op = .slice t x (some y) (some z) none) (hx : s.ev x = some (.s (bs l))) (hy : s.ev y = some (.i m)) (hz : s.ev z = some (.i n)) (hi : m = (i : Int)) (hj : n = (j : Int)) (h1 : i ≤ j) (h2 : j ≤ l.length) : RP c o s (.s (bs ((l.take j).drop i))) := fun g a w hs => by
 refine ⟨.string (bs ((l.take j).drop i)), .d _ _ (.p _), fun w' => ?_⟩
 subst hi hj
 have hr := run_slice_string_if (P := c.P) w' t (bs l) .i64 .i64 (i : Int) (j : Int) hu
 rw [if_pos ⟨by omega, by rw [bs_size]; omega⟩, if_pos ⟨by omega, by omega⟩, Int.toNat_natCast, Int.toNat_natCast, bs_sub l i j h2] at hr
 simp only [execOp, ho, VRep.p_eq (hs.ev hx), VRep.p_eq (hs.ev hy), VRep.p_eq (hs.ev hz), Option.map_some, Option.map_none, Sem.run_bind, run_sliceAt_string _ t _ _ _ _ hu, hr, Result.andThen_ok]
 rfl
end
set_option maxHeartbeats 1000000 in
theorem am_RLines (t : List UInt8) (ht : t.length ≤ 20000) : Fn Tryz.prog 9 [.s (bs t)] (fun v => v = .tup [.d (strsD (pcs 10 t t.length)), .b (decide (frm 10 t t.length = t.length))]) := by
 obtain ⟨n, hn⟩ : ∃ n, t.length = n := ⟨_, rfl⟩
 have hsz : (bs t).size = n := by rw [bs_size]; exact hn
 rw [hn] at ht ⊢
 refine Fn.intro (n := 31) ⟨Tryz.func9, rfl, rfl, rfl, rfl⟩ (by simp [V.pure, V.has, V.hasL]) (by simp) fun w0 out => ?_
 refine AW.seq ?_
 refine AW.region ?_
 refine AL.rp rfl rfl (rp_assign rfl rfl) ?_
 refine AL.rp rfl rfl (rp_assign rfl rfl) ?_
 refine AL.nil ?_
 try simp only [thenS, S.put, enum, List.nil_append, List.cons_append, List.append_nil, Nat.zero_add, Nat.reduceAdd]
 refine AW.seq ?_
 refine AW.region ?_
 refine AL.rp rfl rfl (rp_assign rfl rfl) ?_
 refine AL.nil ?_
 try simp only [thenS, S.put]
 refine AW.seq ?_
 refine AW.region ?_
 refine AL.rp rfl rfl (rp_assign rfl rfl) ?_
 refine AL.nil ?_
 try simp only [thenS, S.put]
 refine AW.seq ?_
 refine AW.seq ?_
 refine AW.region ?_
 refine AL.rp rfl rfl (rp_assign rfl rfl) ?_
 refine AL.nil ?_
 try simp only [thenS, S.put]
 refine AW.block ?_
 refine AW.adopt 4 30 1 9 rfl (by simp [S.clean, V.has, V.hasL]) ?_
 refine AW.loop (fun s' => ∃ (i : Nat) (z : Bool), i ≤ n ∧ (z = (pcs 10 t i).isEmpty) ∧ s' = ⟨31, [(0, .s (bs t)), (4, .own 30 1 (pcs 10 t i).length z), (5, .i (frm 10 t i)), (6, .i i)], [(30, ⟨9, strsC (pcs 10 t i), z, 1⟩)], []⟩) (fun s' => n - s'.nat 6) ⟨_, ?_, 0, true, by omega, rfl, rfl⟩ ?_
 ·exact (Less.of rfl (by repeat (first | exact trivial | refine ⟨⟨_, rfl, Wk.refl _⟩, ?_⟩ | refine ⟨⟨_, rfl, Wk.nil _ _⟩, ?_⟩ | refine ⟨⟨_, rfl, Wk.junk _⟩, ?_⟩)) (by repeat (first | exact trivial | refine ⟨rfl, ?_⟩)) rfl)
 rintro s' ⟨i, z, hi, hz, rfl⟩
 have hf := frm_le 10 t i
 have hp := pcs_len 10 t i
 by_cases hlt : i < n
 ·obtain ⟨b, hb⟩ := get_lt hn hlt
  have hb' : (bs t).data.toList[i]? = some b := hb
  by_cases h10 : b.toNat = 10
  ·have e : t[i]? = some 10 := by rw [hb]; congr 1; exact UInt8.toNat_inj.1 h10
   have e1 : frm 10 t (i + 1) = i + 1 := by show (if t[i]? = some 10 then i + 1 else _) = _; rw [if_pos e]
   have e2 : pcs 10 t (i + 1) = pcs 10 t i ++ [(t.take i).drop (frm 10 t i)] := by show (if t[i]? = some 10 then _ else _) = _; rw [if_pos e]
   have hpos : ((i : Nat) : Int) + 1 = ((i + 1 : Nat) : Int) := by omega
   refine AW.seq ?_
   refine AW.seq ?_
   refine AW.region ?_
   refine AL.rp rfl rfl (rp_move rfl rfl) ?_
   refine AL.rp rfl rfl (rp_move rfl rfl) ?_
   (first | (refine AL.rp rfl rfl (rp_len_map Tryz.underlying9 rfl rfl (by assumption)) ?_) | (refine AL.rp rfl rfl (rp_len_own Tryz.underlying9 rfl rfl) ?_) | (refine AL.rp rfl rfl (rp_len_sl Tryz.underlying9 rfl rfl) ?_) | (refine AL.rp rfl rfl (rp_len_nil Tryz.underlying9 rfl rfl) ?_) | (refine AL.rp rfl rfl (rp_len_str Tryz.underlying9 rfl rfl) ?_))
   (first | (refine AL.rp rfl rfl (rp_lssT rfl rfl rfl (by first | assumption | omega | (dsimp only; omega))) ?_) | (refine AL.rp rfl rfl (rp_lssF rfl rfl rfl (by first | assumption | omega | (dsimp only; omega))) ?_) | (refine AL.rp rfl rfl (rp_lss rfl rfl rfl) ?_))
   refine AL.nil ?_
   try simp only [thenS, S.put]
   refine AW.condT rfl ?_
   refine AW.skip ?_
   try simp only [thenS]
   refine AW.seq ?_
   refine AW.block ?_
   refine AW.seq ?_
   refine AW.region ?_
   refine AL.rp rfl rfl (rp_move rfl rfl) ?_
   refine AL.rp rfl rfl (rp_move rfl rfl) ?_
   refine AL.rp rfl rfl (rp_index_str Tryz.underlying9 rfl rfl rfl (by first | rfl | omega) (by assumption)) ?_
   (first | (refine AL.rp rfl rfl (rp_eqlT rfl rfl rfl (by first | assumption | omega | (dsimp only; omega))) ?_) | (refine AL.rp rfl rfl (rp_eqlF rfl rfl rfl (by first | assumption | omega | (dsimp only; omega))) ?_) | (refine AL.rp rfl rfl (rp_eql rfl rfl rfl) ?_))
   refine AL.nil ?_
   try simp only [thenS, S.put]
   refine AW.condT rfl ?_
   refine AW.seq ?_
   refine AW.region ?_
   refine AL.rp rfl rfl (rp_move rfl rfl) ?_
   refine AL.rp rfl rfl (rp_move rfl rfl) ?_
   refine AL.rp rfl rfl (rp_move rfl rfl) ?_
   refine AL.rp rfl rfl (rp_move rfl rfl) ?_
   refine AL.rp rfl rfl (rp_slice_strb Tryz.underlying9 rfl rfl rfl rfl rfl rfl (by omega) (by omega)) ?_
   refine AL.sm rfl (sm_slice (vs := [(0, _)]) (zs := [.d (.p (.string ⟨#[]⟩))]) 22 Tryz.underlying33 inf9 rfl rfl (by decide) (by decide) (by decide) rfl rfl rfl rfl (by first | rfl | simp [S.clean, S.put, S.newObj, S.forget, V.has, V.hasL, junkIf, setL, V.cs, hasL_i, hasL_d, hasL_b, hasL_s, hasL_n, hasL_rep, hasL_flat, hasL_append, -List.map_set]) (by first | rfl | simp [S.clean, S.put, S.newObj, S.forget, V.has, V.hasL, junkIf, setL, V.cs, hasL_i, hasL_d, hasL_b, hasL_s, hasL_n, hasL_rep, hasL_flat, hasL_append, -List.map_set]) rfl) ?_
   refine AL.st rfl (st_appendF Tryz.underlying33 inf9 rfl (by decide) rfl rfl rfl rfl rfl rfl (by first | assumption | rfl | (simp; done)) (by first | rfl | simp [S.clean, S.put, S.newObj, S.forget, V.has, V.hasL, junkIf, setL, V.cs, hasL_i, hasL_d, hasL_b, hasL_s, hasL_n, hasL_rep, hasL_flat, hasL_append, -List.map_set]) rfl rfl rfl rfl rfl (by first | rfl | simp [S.clean, S.put, S.newObj, S.forget, V.has, V.hasL, junkIf, setL, V.cs, hasL_i, hasL_d, hasL_b, hasL_s, hasL_n, hasL_rep, hasL_flat, hasL_append, -List.map_set]) rfl (by decide) (by omega) (by omega) rfl) ?_
   simp only [S.forget, S.put, S.newObj, junkIf, V.has, V.hasL, hasL_i, hasL_b, hasL_s, hasL_d, hasL_n, hasL_rep, hasL_flat, hasL_append, List.map_cons, List.map_nil, List.filter_cons, List.filter_nil, Nat.reduceBNe, Nat.reduceBEq, eq_self, bne_self_eq_false,  Bool.not_true, Bool.not_false, Bool.or_false, Bool.or_true, Bool.false_or, Bool.true_or, if_true, if_false, Bool.false_eq_true, ite_true, ite_false, ↓reduceIte, beq_self_eq_true, Nat.reduceEqDiff]
   refine AL.rp rfl rfl (rp_assign rfl rfl) ?_
   refine AL.nil ?_
   try simp only [thenS, S.put, S.newObj, setL, V.cs, List.length_cons, List.length_nil, List.take_succ_cons, List.take_zero, List.drop_succ_cons, List.drop_zero, List.drop_nil, List.nil_append, List.cons_append, List.append_nil, Nat.zero_add, Nat.reduceAdd, List.map_cons, List.map_nil, List.set_cons_zero, List.set_cons_succ]
   refine AW.region ?_
   refine AL.rp rfl rfl (rp_move rfl rfl) ?_
   refine AL.rp rfl rfl (rp_add rfl rfl rfl (by first | omega | (dsimp only; omega))) ?_
   refine AL.rp rfl rfl (rp_assign rfl rfl) ?_
   refine AL.nil ?_
   try simp only [thenS, S.put]
   refine AW.region ?_
   refine AL.rp rfl rfl (rp_move rfl rfl) ?_
   refine AL.rp rfl rfl (rp_add rfl rfl rfl (by first | omega | (dsimp only; omega))) ?_
   refine AL.rp rfl rfl (rp_assign rfl rfl) ?_
   refine AL.nil ?_
   try simp only [thenS, S.put]
   refine ⟨⟨31, [(0, .s (bs t)), (4, .own 30 1 ((pcs 10 t i).length + 1) false), (5, .i (i + 1 : Nat)), (6, .i (i + 1 : Nat))], [(30, ⟨9, strsC (pcs 10 t i) ++ [.s (bs ((t.take i).drop (frm 10 t i)))], false, 1⟩)], []⟩, (Less.of rfl (by repeat (first | exact trivial | refine ⟨⟨_, rfl, Wk.refl _⟩, ?_⟩ | refine ⟨⟨_, rfl, Wk.nil _ _⟩, ?_⟩ | refine ⟨⟨_, rfl, Wk.junk _⟩, ?_⟩)) (by repeat (first | exact trivial | refine ⟨rfl, ?_⟩)) rfl), ⟨i + 1, false, by omega, by rw [e2]; simp, ?_⟩, ?_⟩
   ·rw [e1, e2]
    simp [strsC]
   ·simp [S.nat, fnd]; omega
  ·have e : ¬ t[i]? = some 10 := by
    rw [hb]
    intro h
    cases h
    exact h10 rfl
   have e1 : frm 10 t (i + 1) = frm 10 t i := by show (if t[i]? = some 10 then i + 1 else _) = _; rw [if_neg e]
   have e2 : pcs 10 t (i + 1) = pcs 10 t i := by show (if t[i]? = some 10 then _ else _) = _; rw [if_neg e]
   refine AW.seq ?_
   refine AW.seq ?_
   refine AW.region ?_
   refine AL.rp rfl rfl (rp_move rfl rfl) ?_
   refine AL.rp rfl rfl (rp_move rfl rfl) ?_
   (first | (refine AL.rp rfl rfl (rp_len_map Tryz.underlying9 rfl rfl (by assumption)) ?_) | (refine AL.rp rfl rfl (rp_len_own Tryz.underlying9 rfl rfl) ?_) | (refine AL.rp rfl rfl (rp_len_sl Tryz.underlying9 rfl rfl) ?_) | (refine AL.rp rfl rfl (rp_len_nil Tryz.underlying9 rfl rfl) ?_) | (refine AL.rp rfl rfl (rp_len_str Tryz.underlying9 rfl rfl) ?_))
   (first | (refine AL.rp rfl rfl (rp_lssT rfl rfl rfl (by first | assumption | omega | (dsimp only; omega))) ?_) | (refine AL.rp rfl rfl (rp_lssF rfl rfl rfl (by first | assumption | omega | (dsimp only; omega))) ?_) | (refine AL.rp rfl rfl (rp_lss rfl rfl rfl) ?_))
   refine AL.nil ?_
   try simp only [thenS, S.put]
   refine AW.condT rfl ?_
   refine AW.skip ?_
   try simp only [thenS]
   refine AW.seq ?_
   refine AW.block ?_
   refine AW.seq ?_
   refine AW.region ?_
   refine AL.rp rfl rfl (rp_move rfl rfl) ?_
   refine AL.rp rfl rfl (rp_move rfl rfl) ?_
   refine AL.rp rfl rfl (rp_index_str Tryz.underlying9 rfl rfl rfl (by first | rfl | omega) (by assumption)) ?_
   (first | (refine AL.rp rfl rfl (rp_eqlT rfl rfl rfl (by first | assumption | omega | (dsimp only; omega))) ?_) | (refine AL.rp rfl rfl (rp_eqlF rfl rfl rfl (by first | assumption | omega | (dsimp only; omega))) ?_) | (refine AL.rp rfl rfl (rp_eql rfl rfl rfl) ?_))
   refine AL.nil ?_
   try simp only [thenS, S.put]
   refine AW.condF rfl ?_
   refine AW.skip ?_
   try simp only [thenS]
   refine AW.region ?_
   refine AL.rp rfl rfl (rp_move rfl rfl) ?_
   refine AL.rp rfl rfl (rp_add rfl rfl rfl (by first | omega | (dsimp only; omega))) ?_
   refine AL.rp rfl rfl (rp_assign rfl rfl) ?_
   refine AL.nil ?_
   try simp only [thenS, S.put]
   refine ⟨_, ?_, ⟨i + 1, z, by omega, by rw [e2]; exact hz, rfl⟩, ?_⟩
   ·rw [e1, e2]
    exact (Less.of rfl (by repeat (first | exact trivial | refine ⟨⟨_, rfl, Wk.refl _⟩, ?_⟩ | refine ⟨⟨_, rfl, Wk.nil _ _⟩, ?_⟩ | refine ⟨⟨_, rfl, Wk.junk _⟩, ?_⟩)) (by repeat (first | exact trivial | refine ⟨rfl, ?_⟩)) rfl)
   ·simp [S.nat, fnd]; omega
 ·obtain rfl : i = n := by omega
  refine AW.freeze 4 16 ((pcs 10 t i).map fun b => [.p (.string (bs b))]) rfl rfl rfl (by rw [List.length_map]) (by omega) (rows1 rfl) ?_
  refine AW.seq ?_
  refine AW.seq ?_
  refine AW.region ?_
  refine AL.rp rfl rfl (rp_move rfl rfl) ?_
  refine AL.rp rfl rfl (rp_move rfl rfl) ?_
  (first | (refine AL.rp rfl rfl (rp_len_map Tryz.underlying9 rfl rfl (by assumption)) ?_) | (refine AL.rp rfl rfl (rp_len_own Tryz.underlying9 rfl rfl) ?_) | (refine AL.rp rfl rfl (rp_len_sl Tryz.underlying9 rfl rfl) ?_) | (refine AL.rp rfl rfl (rp_len_nil Tryz.underlying9 rfl rfl) ?_) | (refine AL.rp rfl rfl (rp_len_str Tryz.underlying9 rfl rfl) ?_))
  (first | (refine AL.rp rfl rfl (rp_lssT rfl rfl rfl (by first | assumption | omega | (dsimp only; omega))) ?_) | (refine AL.rp rfl rfl (rp_lssF rfl rfl rfl (by first | assumption | omega | (dsimp only; omega))) ?_) | (refine AL.rp rfl rfl (rp_lss rfl rfl rfl) ?_))
  refine AL.nil ?_
  try simp only [thenS, S.put]
  refine AW.condF rfl ?_
  refine AW.exit ?_
  try simp only [thenS, inBlockS, ↓reduceIte, Nat.reduceEqDiff]
  refine AW.seq ?_
  refine AW.region ?_
  refine AL.rp rfl rfl (rp_move rfl rfl) ?_
  refine AL.rp rfl rfl (rp_move rfl rfl) ?_
  refine AL.rp rfl rfl (rp_move rfl rfl) ?_
  (first | (refine AL.rp rfl rfl (rp_len_map Tryz.underlying9 rfl rfl (by assumption)) ?_) | (refine AL.rp rfl rfl (rp_len_own Tryz.underlying9 rfl rfl) ?_) | (refine AL.rp rfl rfl (rp_len_sl Tryz.underlying9 rfl rfl) ?_) | (refine AL.rp rfl rfl (rp_len_nil Tryz.underlying9 rfl rfl) ?_) | (refine AL.rp rfl rfl (rp_len_str Tryz.underlying9 rfl rfl) ?_))
  (first | (refine AL.rp rfl rfl (rp_eqlT rfl rfl rfl (by first | assumption | omega | (dsimp only; omega))) ?_) | (refine AL.rp rfl rfl (rp_eqlF rfl rfl rfl (by first | assumption | omega | (dsimp only; omega))) ?_) | (refine AL.rp rfl rfl (rp_eql rfl rfl rfl) ?_))
  refine AL.rp rfl rfl (rp_assign rfl rfl) ?_
  refine AL.rp rfl rfl (rp_assign rfl rfl) ?_
  refine AL.nil ?_
  try simp only [thenS, S.put]
  refine AW.ret ?_
  refine ⟨[_, _], ⟨rfl, rfl, trivial⟩, ?_, by simp [tupOf, V.pure, V.has, V.hasL]⟩
  have hd : decide ((frm 10 t i : Int) = (((bs t).size : Nat) : Int)) = decide (frm 10 t i = i) := by
   rw [hsz, decide_eq_decide]
   omega
  rw [hd]
  rfl
/-- As frm and pcs, where the text's end ends a piece too. -/
def frmE (c : UInt8) (t : List UInt8) : Nat → Nat
 | 0 => 0
 | i + 1 => if i = t.length ∨ t[i]? = some c then i + 1 else frmE c t i
def pcsE (c : UInt8) (t : List UInt8) : Nat → List (List UInt8)
 | 0 => []
 | i + 1 => if i = t.length ∨ t[i]? = some c then pcsE c t i ++ [(t.take i).drop (frmE c t i)] else pcsE c t i
theorem frmE_le (c : UInt8) (t : List UInt8) : ∀ i, frmE c t i ≤ i
 | 0 => Nat.le_refl 0
 | i + 1 => by
  unfold frmE
  have := frmE_le c t i
  split <;> omega
theorem pcsE_len (c : UInt8) (t : List UInt8) : ∀ i, (pcsE c t i).length ≤ i
 | 0 => Nat.le_refl 0
 | i + 1 => by
  unfold pcsE
  have := pcsE_len c t i
  split
  ·simp; omega
  ·omega
set_option maxHeartbeats 1000000 in
theorem am_RParts (t : List UInt8) (ht : t.length ≤ 20000) : Fn Tryz.prog 10 [.s (bs t)] (fun v => v = .d (strsD (pcsE 32 t (t.length + 1)))) := by
 obtain ⟨n, hn⟩ : ∃ n, t.length = n := ⟨_, rfl⟩
 have hsz : (bs t).size = n := by rw [bs_size]; exact hn
 rw [hn] at ht ⊢
 refine Fn.intro (n := 32) ⟨Tryz.func10, rfl, rfl, rfl, rfl⟩ (by simp [V.pure, V.has, V.hasL]) (by simp) fun w0 out => ?_
 refine AW.seq ?_
 refine AW.region ?_
 refine AL.rp rfl rfl (rp_assign rfl rfl) ?_
 refine AL.nil ?_
 try simp only [thenS, S.put, enum, List.nil_append, List.cons_append, List.append_nil, Nat.zero_add, Nat.reduceAdd]
 refine AW.seq ?_
 refine AW.region ?_
 refine AL.rp rfl rfl (rp_assign rfl rfl) ?_
 refine AL.nil ?_
 try simp only [thenS, S.put]
 refine AW.seq ?_
 refine AW.region ?_
 refine AL.rp rfl rfl (rp_assign rfl rfl) ?_
 refine AL.nil ?_
 try simp only [thenS, S.put]
 refine AW.seq ?_
 refine AW.seq ?_
 refine AW.region ?_
 refine AL.rp rfl rfl (rp_assign rfl rfl) ?_
 refine AL.nil ?_
 try simp only [thenS, S.put]
 refine AW.block ?_
 refine AW.adopt 3 30 1 9 rfl (by simp [S.clean, V.has, V.hasL]) ?_
 refine AW.loop (fun s' => ∃ (i : Nat) (z : Bool), i ≤ n + 1 ∧ (z = (pcsE 32 t i).isEmpty) ∧ s' = ⟨32, [(0, .s (bs t)), (3, .own 30 1 (pcsE 32 t i).length z), (4, .i (frmE 32 t i)), (5, .i i)], [(30, ⟨9, strsC (pcsE 32 t i), z, 1⟩)], []⟩) (fun s' => n + 1 - s'.nat 5) ⟨_, ?_, 0, true, by omega, rfl, rfl⟩ ?_
 ·exact (Less.of rfl (by repeat (first | exact trivial | refine ⟨⟨_, rfl, Wk.refl _⟩, ?_⟩ | refine ⟨⟨_, rfl, Wk.nil _ _⟩, ?_⟩ | refine ⟨⟨_, rfl, Wk.junk _⟩, ?_⟩)) (by repeat (first | exact trivial | refine ⟨rfl, ?_⟩)) rfl)
 rintro s' ⟨i, z, hi, hz, rfl⟩
 have hf := frmE_le 32 t i
 have hp := pcsE_len 32 t i
 have app : (i = t.length ∨ t[i]? = some 32) → frmE 32 t (i + 1) = i + 1 ∧ pcsE 32 t (i + 1) = pcsE 32 t i ++ [(t.take i).drop (frmE 32 t i)] := fun e =>
  ⟨by show (if i = t.length ∨ t[i]? = some 32 then i + 1 else _) = _; rw [if_pos e], by show (if i = t.length ∨ t[i]? = some 32 then _ else _) = _; rw [if_pos e]⟩
 by_cases hlt : i < n
 ·obtain ⟨b, hb⟩ := get_lt hn hlt
  have hb' : (bs t).data.toList[i]? = some b := hb
  have hle : i ≤ n := by omega
  have hne : ¬ i = n := by omega
  by_cases h10 : b.toNat = 32
  ·obtain ⟨e1, e2⟩ := app (.inr (by rw [hb]; congr 1; exact UInt8.toNat_inj.1 h10))
   refine AW.seq ?_
   refine AW.seq ?_
   refine AW.region ?_
   refine AL.rp rfl rfl (rp_move rfl rfl) ?_
   refine AL.rp rfl rfl (rp_move rfl rfl) ?_
   (first | (refine AL.rp rfl rfl (rp_len_map Tryz.underlying9 rfl rfl (by assumption)) ?_) | (refine AL.rp rfl rfl (rp_len_own Tryz.underlying9 rfl rfl) ?_) | (refine AL.rp rfl rfl (rp_len_sl Tryz.underlying9 rfl rfl) ?_) | (refine AL.rp rfl rfl (rp_len_nil Tryz.underlying9 rfl rfl) ?_) | (refine AL.rp rfl rfl (rp_len_str Tryz.underlying9 rfl rfl) ?_))
   (first | (refine AL.rp rfl rfl (rp_leqT rfl rfl rfl (by first | assumption | omega | (dsimp only; omega))) ?_) | (refine AL.rp rfl rfl (rp_leqF rfl rfl rfl (by first | assumption | omega | (dsimp only; omega))) ?_) | (refine AL.rp rfl rfl (rp_leq rfl rfl rfl) ?_))
   refine AL.nil ?_
   try simp only [thenS, S.put]
   refine AW.condT rfl ?_
   refine AW.skip ?_
   try simp only [thenS]
   refine AW.seq ?_
   refine AW.block ?_
   refine AW.seq ?_
   refine AW.region ?_
   refine AL.rp rfl rfl (rp_move rfl rfl) ?_
   refine AL.rp rfl rfl (rp_move rfl rfl) ?_
   (first | (refine AL.rp rfl rfl (rp_len_map Tryz.underlying9 rfl rfl (by assumption)) ?_) | (refine AL.rp rfl rfl (rp_len_own Tryz.underlying9 rfl rfl) ?_) | (refine AL.rp rfl rfl (rp_len_sl Tryz.underlying9 rfl rfl) ?_) | (refine AL.rp rfl rfl (rp_len_nil Tryz.underlying9 rfl rfl) ?_) | (refine AL.rp rfl rfl (rp_len_str Tryz.underlying9 rfl rfl) ?_))
   (first | (refine AL.rp rfl rfl (rp_eqlT rfl rfl rfl (by first | assumption | omega | (dsimp only; omega))) ?_) | (refine AL.rp rfl rfl (rp_eqlF rfl rfl rfl (by first | assumption | omega | (dsimp only; omega))) ?_) | (refine AL.rp rfl rfl (rp_eql rfl rfl rfl) ?_))
   refine AL.rp rfl rfl (rp_move rfl rfl) ?_
   (first | (refine AL.noV rfl rfl rfl rfl ?_) | (refine AL.noU rfl ⟨_, rfl, rfl⟩ rfl ?_) | (refine AL.rpy rfl rfl rfl (rp_move rfl rfl) ?_))
   (first | (refine AL.noV rfl rfl rfl rfl ?_) | (refine AL.noU rfl ⟨_, rfl, rfl⟩ rfl ?_) | (refine AL.rpy rfl rfl rfl (rp_move rfl rfl) ?_))
   (first | (refine AL.noV rfl rfl rfl rfl ?_) | (refine AL.noU rfl ⟨_, rfl, rfl⟩ rfl ?_) | (refine AL.rpy rfl rfl rfl (rp_index_str Tryz.underlying9 rfl rfl rfl (by first | rfl | omega) (by assumption)) ?_))
   (first | (refine AL.noV rfl rfl rfl rfl ?_) | (refine AL.noU rfl ⟨_, rfl, rfl⟩ rfl ?_) | (refine AL.rpy rfl rfl rfl (rp_eqlT rfl rfl rfl (by first | assumption | omega | (dsimp only; omega))) ?_) | (refine AL.rpy rfl rfl rfl (rp_eqlF rfl rfl rfl (by first | assumption | omega | (dsimp only; omega))) ?_) | (refine AL.rpy rfl rfl rfl (rp_eql rfl rfl rfl) ?_))
   refine AL.rp rfl rfl (rp_pick rfl rfl rfl) ?_
   refine AL.nil ?_
   try simp only [thenS, S.put]
   refine AW.condT rfl ?_
   refine AW.seq ?_
   refine AW.region ?_
   refine AL.rp rfl rfl (rp_move rfl rfl) ?_
   refine AL.rp rfl rfl (rp_move rfl rfl) ?_
   refine AL.rp rfl rfl (rp_move rfl rfl) ?_
   refine AL.rp rfl rfl (rp_move rfl rfl) ?_
   refine AL.rp rfl rfl (rp_slice_strb Tryz.underlying9 rfl rfl rfl rfl rfl rfl (by omega) (by omega)) ?_
   refine AL.sm rfl (sm_slice (vs := [(0, _)]) (zs := [.d (.p (.string ⟨#[]⟩))]) 27 Tryz.underlying33 inf9 rfl rfl (by decide) (by decide) (by decide) rfl rfl rfl rfl (by first | rfl | simp [S.clean, S.put, S.newObj, S.forget, V.has, V.hasL, junkIf, setL, V.cs, hasL_i, hasL_d, hasL_b, hasL_s, hasL_n, hasL_rep, hasL_flat, hasL_append, -List.map_set]) (by first | rfl | simp [S.clean, S.put, S.newObj, S.forget, V.has, V.hasL, junkIf, setL, V.cs, hasL_i, hasL_d, hasL_b, hasL_s, hasL_n, hasL_rep, hasL_flat, hasL_append, -List.map_set]) rfl) ?_
   refine AL.st rfl (st_appendF Tryz.underlying33 inf9 rfl (by decide) rfl rfl rfl rfl rfl rfl (by first | assumption | rfl | (simp; done)) (by first | rfl | simp [S.clean, S.put, S.newObj, S.forget, V.has, V.hasL, junkIf, setL, V.cs, hasL_i, hasL_d, hasL_b, hasL_s, hasL_n, hasL_rep, hasL_flat, hasL_append, -List.map_set]) rfl rfl rfl rfl rfl (by first | rfl | simp [S.clean, S.put, S.newObj, S.forget, V.has, V.hasL, junkIf, setL, V.cs, hasL_i, hasL_d, hasL_b, hasL_s, hasL_n, hasL_rep, hasL_flat, hasL_append, -List.map_set]) rfl (by decide) (by omega) (by omega) rfl) ?_
   simp only [S.forget, S.put, S.newObj, junkIf, V.has, V.hasL, hasL_i, hasL_b, hasL_s, hasL_d, hasL_n, hasL_rep, hasL_flat, hasL_append, List.map_cons, List.map_nil, List.filter_cons, List.filter_nil, Nat.reduceBNe, Nat.reduceBEq, eq_self, bne_self_eq_false,  Bool.not_true, Bool.not_false, Bool.or_false, Bool.or_true, Bool.false_or, Bool.true_or, if_true, if_false, Bool.false_eq_true, ite_true, ite_false, ↓reduceIte, beq_self_eq_true, Nat.reduceEqDiff]
   refine AL.rp rfl rfl (rp_assign rfl rfl) ?_
   refine AL.nil ?_
   try simp only [thenS, S.put, S.newObj, setL, V.cs, List.length_cons, List.length_nil, List.take_succ_cons, List.take_zero, List.drop_succ_cons, List.drop_zero, List.drop_nil, List.nil_append, List.cons_append, List.append_nil, Nat.zero_add, Nat.reduceAdd, List.map_cons, List.map_nil, List.set_cons_zero, List.set_cons_succ]
   refine AW.region ?_
   refine AL.rp rfl rfl (rp_move rfl rfl) ?_
   refine AL.rp rfl rfl (rp_add rfl rfl rfl (by first | omega | (dsimp only; omega))) ?_
   refine AL.rp rfl rfl (rp_assign rfl rfl) ?_
   refine AL.nil ?_
   try simp only [thenS, S.put]
   refine AW.region ?_
   refine AL.rp rfl rfl (rp_move rfl rfl) ?_
   refine AL.rp rfl rfl (rp_add rfl rfl rfl (by first | omega | (dsimp only; omega))) ?_
   refine AL.rp rfl rfl (rp_assign rfl rfl) ?_
   refine AL.nil ?_
   try simp only [thenS, S.put]
   refine ⟨⟨32, [(0, .s (bs t)), (3, .own 30 1 ((pcsE 32 t i).length + 1) false), (4, .i (i + 1 : Nat)), (5, .i (i + 1 : Nat))], [(30, ⟨9, strsC (pcsE 32 t i) ++ [.s (bs ((t.take i).drop (frmE 32 t i)))], false, 1⟩)], []⟩, (Less.of rfl (by repeat (first | exact trivial | refine ⟨⟨_, rfl, Wk.refl _⟩, ?_⟩ | refine ⟨⟨_, rfl, Wk.nil _ _⟩, ?_⟩ | refine ⟨⟨_, rfl, Wk.junk _⟩, ?_⟩)) (by repeat (first | exact trivial | refine ⟨rfl, ?_⟩)) rfl), ⟨i + 1, false, by omega, by rw [e2]; simp, ?_⟩, ?_⟩
   ·rw [e1, e2]
    simp [strsC]
   ·simp [S.nat, fnd]; omega
  ·have e : ¬ (i = t.length ∨ t[i]? = some 32) := by
    rw [hb, hn]
    rintro (h | h)
    ·exact hne h
    ·cases h
     exact h10 rfl
   have e1 : frmE 32 t (i + 1) = frmE 32 t i := by show (if i = t.length ∨ t[i]? = some 32 then i + 1 else _) = _; rw [if_neg e]
   have e2 : pcsE 32 t (i + 1) = pcsE 32 t i := by show (if i = t.length ∨ t[i]? = some 32 then _ else _) = _; rw [if_neg e]
   refine AW.seq ?_
   refine AW.seq ?_
   refine AW.region ?_
   refine AL.rp rfl rfl (rp_move rfl rfl) ?_
   refine AL.rp rfl rfl (rp_move rfl rfl) ?_
   (first | (refine AL.rp rfl rfl (rp_len_map Tryz.underlying9 rfl rfl (by assumption)) ?_) | (refine AL.rp rfl rfl (rp_len_own Tryz.underlying9 rfl rfl) ?_) | (refine AL.rp rfl rfl (rp_len_sl Tryz.underlying9 rfl rfl) ?_) | (refine AL.rp rfl rfl (rp_len_nil Tryz.underlying9 rfl rfl) ?_) | (refine AL.rp rfl rfl (rp_len_str Tryz.underlying9 rfl rfl) ?_))
   (first | (refine AL.rp rfl rfl (rp_leqT rfl rfl rfl (by first | assumption | omega | (dsimp only; omega))) ?_) | (refine AL.rp rfl rfl (rp_leqF rfl rfl rfl (by first | assumption | omega | (dsimp only; omega))) ?_) | (refine AL.rp rfl rfl (rp_leq rfl rfl rfl) ?_))
   refine AL.nil ?_
   try simp only [thenS, S.put]
   refine AW.condT rfl ?_
   refine AW.skip ?_
   try simp only [thenS]
   refine AW.seq ?_
   refine AW.block ?_
   refine AW.seq ?_
   refine AW.region ?_
   refine AL.rp rfl rfl (rp_move rfl rfl) ?_
   refine AL.rp rfl rfl (rp_move rfl rfl) ?_
   (first | (refine AL.rp rfl rfl (rp_len_map Tryz.underlying9 rfl rfl (by assumption)) ?_) | (refine AL.rp rfl rfl (rp_len_own Tryz.underlying9 rfl rfl) ?_) | (refine AL.rp rfl rfl (rp_len_sl Tryz.underlying9 rfl rfl) ?_) | (refine AL.rp rfl rfl (rp_len_nil Tryz.underlying9 rfl rfl) ?_) | (refine AL.rp rfl rfl (rp_len_str Tryz.underlying9 rfl rfl) ?_))
   (first | (refine AL.rp rfl rfl (rp_eqlT rfl rfl rfl (by first | assumption | omega | (dsimp only; omega))) ?_) | (refine AL.rp rfl rfl (rp_eqlF rfl rfl rfl (by first | assumption | omega | (dsimp only; omega))) ?_) | (refine AL.rp rfl rfl (rp_eql rfl rfl rfl) ?_))
   refine AL.rp rfl rfl (rp_move rfl rfl) ?_
   (first | (refine AL.noV rfl rfl rfl rfl ?_) | (refine AL.noU rfl ⟨_, rfl, rfl⟩ rfl ?_) | (refine AL.rpy rfl rfl rfl (rp_move rfl rfl) ?_))
   (first | (refine AL.noV rfl rfl rfl rfl ?_) | (refine AL.noU rfl ⟨_, rfl, rfl⟩ rfl ?_) | (refine AL.rpy rfl rfl rfl (rp_move rfl rfl) ?_))
   (first | (refine AL.noV rfl rfl rfl rfl ?_) | (refine AL.noU rfl ⟨_, rfl, rfl⟩ rfl ?_) | (refine AL.rpy rfl rfl rfl (rp_index_str Tryz.underlying9 rfl rfl rfl (by first | rfl | omega) (by assumption)) ?_))
   (first | (refine AL.noV rfl rfl rfl rfl ?_) | (refine AL.noU rfl ⟨_, rfl, rfl⟩ rfl ?_) | (refine AL.rpy rfl rfl rfl (rp_eqlT rfl rfl rfl (by first | assumption | omega | (dsimp only; omega))) ?_) | (refine AL.rpy rfl rfl rfl (rp_eqlF rfl rfl rfl (by first | assumption | omega | (dsimp only; omega))) ?_) | (refine AL.rpy rfl rfl rfl (rp_eql rfl rfl rfl) ?_))
   refine AL.rp rfl rfl (rp_pick rfl rfl rfl) ?_
   refine AL.nil ?_
   try simp only [thenS, S.put]
   refine AW.condF rfl ?_
   refine AW.skip ?_
   try simp only [thenS]
   refine AW.region ?_
   refine AL.rp rfl rfl (rp_move rfl rfl) ?_
   refine AL.rp rfl rfl (rp_add rfl rfl rfl (by first | omega | (dsimp only; omega))) ?_
   refine AL.rp rfl rfl (rp_assign rfl rfl) ?_
   refine AL.nil ?_
   try simp only [thenS, S.put]
   refine ⟨_, ?_, ⟨i + 1, z, by omega, by rw [e2]; exact hz, rfl⟩, ?_⟩
   ·rw [e1, e2]
    exact (Less.of rfl (by repeat (first | exact trivial | refine ⟨⟨_, rfl, Wk.refl _⟩, ?_⟩ | refine ⟨⟨_, rfl, Wk.nil _ _⟩, ?_⟩ | refine ⟨⟨_, rfl, Wk.junk _⟩, ?_⟩)) (by repeat (first | exact trivial | refine ⟨rfl, ?_⟩)) rfl)
   ·simp [S.nat, fnd]; omega
 ·by_cases he : i = n
  ·subst he
   obtain ⟨e1, e2⟩ := app (.inl hn.symm)
   have hle : i ≤ i := Nat.le_refl i
   refine AW.seq ?_
   refine AW.seq ?_
   refine AW.region ?_
   refine AL.rp rfl rfl (rp_move rfl rfl) ?_
   refine AL.rp rfl rfl (rp_move rfl rfl) ?_
   (first | (refine AL.rp rfl rfl (rp_len_map Tryz.underlying9 rfl rfl (by assumption)) ?_) | (refine AL.rp rfl rfl (rp_len_own Tryz.underlying9 rfl rfl) ?_) | (refine AL.rp rfl rfl (rp_len_sl Tryz.underlying9 rfl rfl) ?_) | (refine AL.rp rfl rfl (rp_len_nil Tryz.underlying9 rfl rfl) ?_) | (refine AL.rp rfl rfl (rp_len_str Tryz.underlying9 rfl rfl) ?_))
   (first | (refine AL.rp rfl rfl (rp_leqT rfl rfl rfl (by first | assumption | omega | (dsimp only; omega))) ?_) | (refine AL.rp rfl rfl (rp_leqF rfl rfl rfl (by first | assumption | omega | (dsimp only; omega))) ?_) | (refine AL.rp rfl rfl (rp_leq rfl rfl rfl) ?_))
   refine AL.nil ?_
   try simp only [thenS, S.put]
   refine AW.condT rfl ?_
   refine AW.skip ?_
   try simp only [thenS]
   refine AW.seq ?_
   refine AW.block ?_
   refine AW.seq ?_
   refine AW.region ?_
   refine AL.rp rfl rfl (rp_move rfl rfl) ?_
   refine AL.rp rfl rfl (rp_move rfl rfl) ?_
   (first | (refine AL.rp rfl rfl (rp_len_map Tryz.underlying9 rfl rfl (by assumption)) ?_) | (refine AL.rp rfl rfl (rp_len_own Tryz.underlying9 rfl rfl) ?_) | (refine AL.rp rfl rfl (rp_len_sl Tryz.underlying9 rfl rfl) ?_) | (refine AL.rp rfl rfl (rp_len_nil Tryz.underlying9 rfl rfl) ?_) | (refine AL.rp rfl rfl (rp_len_str Tryz.underlying9 rfl rfl) ?_))
   (first | (refine AL.rp rfl rfl (rp_eqlT rfl rfl rfl (by first | assumption | omega | (dsimp only; omega))) ?_) | (refine AL.rp rfl rfl (rp_eqlF rfl rfl rfl (by first | assumption | omega | (dsimp only; omega))) ?_) | (refine AL.rp rfl rfl (rp_eql rfl rfl rfl) ?_))
   refine AL.rp rfl rfl (rp_move rfl rfl) ?_
   (first | (refine AL.noV rfl rfl rfl rfl ?_) | (refine AL.noU rfl ⟨_, rfl, rfl⟩ rfl ?_) | (refine AL.rpy rfl rfl rfl (rp_move rfl rfl) ?_))
   (first | (refine AL.noV rfl rfl rfl rfl ?_) | (refine AL.noU rfl ⟨_, rfl, rfl⟩ rfl ?_) | (refine AL.rpy rfl rfl rfl (rp_move rfl rfl) ?_))
   (first | (refine AL.noV rfl rfl rfl rfl ?_) | (refine AL.noU rfl ⟨_, rfl, rfl⟩ rfl ?_) | (refine AL.rpy rfl rfl rfl (rp_index_str Tryz.underlying9 rfl rfl rfl (by first | rfl | omega) (by assumption)) ?_))
   (first | (refine AL.noV rfl rfl rfl rfl ?_) | (refine AL.noU rfl ⟨_, rfl, rfl⟩ rfl ?_) | (refine AL.rpy rfl rfl rfl (rp_eqlT rfl rfl rfl (by first | assumption | omega | (dsimp only; omega))) ?_) | (refine AL.rpy rfl rfl rfl (rp_eqlF rfl rfl rfl (by first | assumption | omega | (dsimp only; omega))) ?_) | (refine AL.rpy rfl rfl rfl (rp_eql rfl rfl rfl) ?_))
   refine AL.rp rfl rfl (rp_pick rfl rfl rfl) ?_
   refine AL.nil ?_
   try simp only [thenS, S.put]
   refine AW.condT rfl ?_
   refine AW.seq ?_
   refine AW.region ?_
   refine AL.rp rfl rfl (rp_move rfl rfl) ?_
   refine AL.rp rfl rfl (rp_move rfl rfl) ?_
   refine AL.rp rfl rfl (rp_move rfl rfl) ?_
   refine AL.rp rfl rfl (rp_move rfl rfl) ?_
   refine AL.rp rfl rfl (rp_slice_strb Tryz.underlying9 rfl rfl rfl rfl rfl rfl (by omega) (by omega)) ?_
   refine AL.sm rfl (sm_slice (vs := [(0, _)]) (zs := [.d (.p (.string ⟨#[]⟩))]) 27 Tryz.underlying33 inf9 rfl rfl (by decide) (by decide) (by decide) rfl rfl rfl rfl (by first | rfl | simp [S.clean, S.put, S.newObj, S.forget, V.has, V.hasL, junkIf, setL, V.cs, hasL_i, hasL_d, hasL_b, hasL_s, hasL_n, hasL_rep, hasL_flat, hasL_append, -List.map_set]) (by first | rfl | simp [S.clean, S.put, S.newObj, S.forget, V.has, V.hasL, junkIf, setL, V.cs, hasL_i, hasL_d, hasL_b, hasL_s, hasL_n, hasL_rep, hasL_flat, hasL_append, -List.map_set]) rfl) ?_
   refine AL.st rfl (st_appendF Tryz.underlying33 inf9 rfl (by decide) rfl rfl rfl rfl rfl rfl (by first | assumption | rfl | (simp; done)) (by first | rfl | simp [S.clean, S.put, S.newObj, S.forget, V.has, V.hasL, junkIf, setL, V.cs, hasL_i, hasL_d, hasL_b, hasL_s, hasL_n, hasL_rep, hasL_flat, hasL_append, -List.map_set]) rfl rfl rfl rfl rfl (by first | rfl | simp [S.clean, S.put, S.newObj, S.forget, V.has, V.hasL, junkIf, setL, V.cs, hasL_i, hasL_d, hasL_b, hasL_s, hasL_n, hasL_rep, hasL_flat, hasL_append, -List.map_set]) rfl (by decide) (by omega) (by omega) rfl) ?_
   simp only [S.forget, S.put, S.newObj, junkIf, V.has, V.hasL, hasL_i, hasL_b, hasL_s, hasL_d, hasL_n, hasL_rep, hasL_flat, hasL_append, List.map_cons, List.map_nil, List.filter_cons, List.filter_nil, Nat.reduceBNe, Nat.reduceBEq, eq_self, bne_self_eq_false,  Bool.not_true, Bool.not_false, Bool.or_false, Bool.or_true, Bool.false_or, Bool.true_or, if_true, if_false, Bool.false_eq_true, ite_true, ite_false, ↓reduceIte, beq_self_eq_true, Nat.reduceEqDiff]
   refine AL.rp rfl rfl (rp_assign rfl rfl) ?_
   refine AL.nil ?_
   try simp only [thenS, S.put, S.newObj, setL, V.cs, List.length_cons, List.length_nil, List.take_succ_cons, List.take_zero, List.drop_succ_cons, List.drop_zero, List.drop_nil, List.nil_append, List.cons_append, List.append_nil, Nat.zero_add, Nat.reduceAdd, List.map_cons, List.map_nil, List.set_cons_zero, List.set_cons_succ]
   refine AW.region ?_
   refine AL.rp rfl rfl (rp_move rfl rfl) ?_
   refine AL.rp rfl rfl (rp_add rfl rfl rfl (by first | omega | (dsimp only; omega))) ?_
   refine AL.rp rfl rfl (rp_assign rfl rfl) ?_
   refine AL.nil ?_
   try simp only [thenS, S.put]
   refine AW.region ?_
   refine AL.rp rfl rfl (rp_move rfl rfl) ?_
   refine AL.rp rfl rfl (rp_add rfl rfl rfl (by first | omega | (dsimp only; omega))) ?_
   refine AL.rp rfl rfl (rp_assign rfl rfl) ?_
   refine AL.nil ?_
   try simp only [thenS, S.put]
   refine ⟨⟨32, [(0, .s (bs t)), (3, .own 30 1 ((pcsE 32 t i).length + 1) false), (4, .i (i + 1 : Nat)), (5, .i (i + 1 : Nat))], [(30, ⟨9, strsC (pcsE 32 t i) ++ [.s (bs ((t.take i).drop (frmE 32 t i)))], false, 1⟩)], []⟩, (Less.of rfl (by repeat (first | exact trivial | refine ⟨⟨_, rfl, Wk.refl _⟩, ?_⟩ | refine ⟨⟨_, rfl, Wk.nil _ _⟩, ?_⟩ | refine ⟨⟨_, rfl, Wk.junk _⟩, ?_⟩)) (by repeat (first | exact trivial | refine ⟨rfl, ?_⟩)) rfl), ⟨i + 1, false, by omega, by rw [e2]; simp, ?_⟩, ?_⟩
   ·rw [e1, e2]
    simp [strsC]
   ·simp [S.nat, fnd]
  ·obtain rfl : i = n + 1 := by omega
   refine AW.freeze 3 16 ((pcsE 32 t (n + 1)).map fun b => [.p (.string (bs b))]) rfl rfl rfl (by rw [List.length_map]) (by omega) (rows1 rfl) ?_
   refine AW.seq ?_
   refine AW.seq ?_
   refine AW.region ?_
   refine AL.rp rfl rfl (rp_move rfl rfl) ?_
   refine AL.rp rfl rfl (rp_move rfl rfl) ?_
   (first | (refine AL.rp rfl rfl (rp_len_map Tryz.underlying9 rfl rfl (by assumption)) ?_) | (refine AL.rp rfl rfl (rp_len_own Tryz.underlying9 rfl rfl) ?_) | (refine AL.rp rfl rfl (rp_len_sl Tryz.underlying9 rfl rfl) ?_) | (refine AL.rp rfl rfl (rp_len_nil Tryz.underlying9 rfl rfl) ?_) | (refine AL.rp rfl rfl (rp_len_str Tryz.underlying9 rfl rfl) ?_))
   (first | (refine AL.rp rfl rfl (rp_leqT rfl rfl rfl (by first | assumption | omega | (dsimp only; omega))) ?_) | (refine AL.rp rfl rfl (rp_leqF rfl rfl rfl (by first | assumption | omega | (dsimp only; omega))) ?_) | (refine AL.rp rfl rfl (rp_leq rfl rfl rfl) ?_))
   refine AL.nil ?_
   try simp only [thenS, S.put]
   refine AW.condF rfl ?_
   refine AW.exit ?_
   try simp only [thenS, inBlockS, ↓reduceIte, Nat.reduceEqDiff]
   refine AW.seq ?_
   refine AW.region ?_
   refine AL.rp rfl rfl (rp_move rfl rfl) ?_
   refine AL.rp rfl rfl (rp_assign rfl rfl) ?_
   refine AL.nil ?_
   try simp only [thenS, S.put]
   refine AW.ret ?_
   exact ⟨[_], ⟨rfl, trivial⟩, rfl, by simp [tupOf, V.pure, V.has, V.hasL]⟩
end Go.Proofs.YtkikceoccmoanaaGreatDoor
namespace Go.Proofs.YtkikceoccmoanaaGreatDoor
open Go.RowKit
set_option linter.unusedSimpArgs false
set_option linter.unusedVariables false
set_option maxRecDepth 100000

section
variable {c : Cx} {s : S} {o : Oper}
theorem rp_sub8 {t t' : TypeId} {x y : Operand} {m n : Int} (ho : o.op = .binOp .sub t x y t') (hx : s.ev x = some (.d (.p (.int .u8 m)))) (hy : s.ev y = some (.d (.p (.int .u8 n)))) (h : 0 ≤ m - n ∧ m - n ≤ 255) : RP c o s (.d (.p (.int .u8 (m - n)))) :=
 rp_bin ho hx hy fun w => by
  have : IntKind.u8.wrap (m - n) = m - n := by rw [wrap8]; omega
  simp [eqGuard, binOp, Op.intArith, this]
end
def numR (l : List UInt8) : Int := if 12 < l.length then -1 else if l = [] ∨ (l[0]? = some 48 ∧ 1 < l.length) then -2 else match Lib.decFrom 0 l with | none => -2 | some n => if 1000000000 < n then 1000000001 else n
theorem digit_some {b : UInt8} (h : 48 ≤ b.toNat ∧ b.toNat ≤ 57) : Lib.digitVal b = some (b.toNat - 48) := by unfold Lib.digitVal; rw [if_pos h]
theorem digit_none {b : UInt8} (h : ¬ (48 ≤ b.toNat ∧ b.toNat ≤ 57)) : Lib.digitVal b = none := by unfold Lib.digitVal; rw [if_neg h]
theorem dec_none {l : List UInt8} {k : Nat} {b : UInt8} (hb : l[k]? = some b) (h : ¬ (48 ≤ b.toNat ∧ b.toNat ≤ 57)) : Lib.decFrom 0 l = none := by
 cases hd : Lib.decFrom 0 l with
 | none => rfl
 | some n =>
  obtain ⟨d, hd'⟩ := Lib.digit_of_decFrom l 0 n hd k b hb
  rw [digit_none h] at hd'
  cases hd'
theorem b48 {b : UInt8} : b.toNat = 48 ↔ b = 48 := by
 constructor
 ·intro h; exact UInt8.toNat_inj.1 h
 ·rintro rfl; rfl
set_option maxHeartbeats 1000000 in
theorem am_Number (str : ByteArray) (l : List UInt8) (hl : str.data.toList = l) : Fn Tryz.prog 11 [.s str, .i 1000000000] (fun v => v = .i (numR l)) := by
 obtain ⟨n, hn⟩ : ∃ n, l.length = n := ⟨_, rfl⟩
 have hsz : str.size = n := by rw [← hn, ← hl]; exact Array.length_toList.symm
 by_cases h12 : 12 < n
 ·have hR : numR l = -1 := by unfold numR; rw [if_pos (by omega)]
  rw [hR]
  refine Fn.intro (n := 48) ⟨Tryz.func11, rfl, rfl, rfl, rfl⟩ (by simp [V.pure, V.has, V.hasL]) (by simp) fun w0 out => ?_
  refine AW.seq ?_
  refine AW.region ?_
  refine AL.rp rfl rfl (rp_assign rfl rfl) ?_
  refine AL.nil ?_
  try simp only [thenS, S.put, enum, List.nil_append, List.cons_append, List.append_nil, Nat.zero_add, Nat.reduceAdd]
  refine AW.seq ?_
  refine AW.seq ?_
  refine AW.region ?_
  refine AL.rp rfl rfl (rp_move rfl rfl) ?_
  (first | (refine AL.rp rfl rfl (rp_len_map Tryz.underlying9 rfl rfl (by assumption)) ?_) | (refine AL.rp rfl rfl (rp_len_own Tryz.underlying9 rfl rfl) ?_) | (refine AL.rp rfl rfl (rp_len_sl Tryz.underlying9 rfl rfl) ?_) | (refine AL.rp rfl rfl (rp_len_nil Tryz.underlying9 rfl rfl) ?_) | (refine AL.rp rfl rfl (rp_len_str Tryz.underlying9 rfl rfl) ?_))
  (first | (refine AL.rp rfl rfl (rp_gtrT rfl rfl rfl (by first | assumption | omega | (dsimp only; omega))) ?_) | (refine AL.rp rfl rfl (rp_gtrF rfl rfl rfl (by first | assumption | omega | (dsimp only; omega))) ?_) | (refine AL.rp rfl rfl (rp_gtr rfl rfl rfl) ?_))
  refine AL.nil ?_
  try simp only [thenS, S.put]
  refine AW.condT rfl ?_
  refine AW.seq ?_
  refine AW.region ?_
  refine AL.rp rfl rfl (rp_assign rfl rfl) ?_
  refine AL.nil ?_
  try simp only [thenS, S.put]
  refine AW.ret ?_
  exact ⟨[_], ⟨rfl, trivial⟩, rfl, by simp [tupOf, V.pure, V.has, V.hasL]⟩
 ·by_cases h00 : n = 0
  ·have hR : numR l = -2 := by unfold numR; rw [if_neg (by omega), if_pos (.inl (List.length_eq_zero_iff.1 (by omega)))]
   rw [hR]
   refine Fn.intro (n := 48) ⟨Tryz.func11, rfl, rfl, rfl, rfl⟩ (by simp [V.pure, V.has, V.hasL]) (by simp) fun w0 out => ?_
   refine AW.seq ?_
   refine AW.region ?_
   refine AL.rp rfl rfl (rp_assign rfl rfl) ?_
   refine AL.nil ?_
   try simp only [thenS, S.put, enum, List.nil_append, List.cons_append, List.append_nil, Nat.zero_add, Nat.reduceAdd]
   refine AW.seq ?_
   refine AW.seq ?_
   refine AW.region ?_
   refine AL.rp rfl rfl (rp_move rfl rfl) ?_
   (first | (refine AL.rp rfl rfl (rp_len_map Tryz.underlying9 rfl rfl (by assumption)) ?_) | (refine AL.rp rfl rfl (rp_len_own Tryz.underlying9 rfl rfl) ?_) | (refine AL.rp rfl rfl (rp_len_sl Tryz.underlying9 rfl rfl) ?_) | (refine AL.rp rfl rfl (rp_len_nil Tryz.underlying9 rfl rfl) ?_) | (refine AL.rp rfl rfl (rp_len_str Tryz.underlying9 rfl rfl) ?_))
   (first | (refine AL.rp rfl rfl (rp_gtrT rfl rfl rfl (by first | assumption | omega | (dsimp only; omega))) ?_) | (refine AL.rp rfl rfl (rp_gtrF rfl rfl rfl (by first | assumption | omega | (dsimp only; omega))) ?_) | (refine AL.rp rfl rfl (rp_gtr rfl rfl rfl) ?_))
   refine AL.nil ?_
   try simp only [thenS, S.put]
   refine AW.condF rfl ?_
   refine AW.skip ?_
   try simp only [thenS]
   refine AW.seq ?_
   refine AW.seq ?_
   refine AW.region ?_
   refine AL.rp rfl rfl (rp_move rfl rfl) ?_
   (first | (refine AL.rp rfl rfl (rp_len_map Tryz.underlying9 rfl rfl (by assumption)) ?_) | (refine AL.rp rfl rfl (rp_len_own Tryz.underlying9 rfl rfl) ?_) | (refine AL.rp rfl rfl (rp_len_sl Tryz.underlying9 rfl rfl) ?_) | (refine AL.rp rfl rfl (rp_len_nil Tryz.underlying9 rfl rfl) ?_) | (refine AL.rp rfl rfl (rp_len_str Tryz.underlying9 rfl rfl) ?_))
   (first | (refine AL.rp rfl rfl (rp_eqlT rfl rfl rfl (by first | assumption | omega | (dsimp only; omega))) ?_) | (refine AL.rp rfl rfl (rp_eqlF rfl rfl rfl (by first | assumption | omega | (dsimp only; omega))) ?_) | (refine AL.rp rfl rfl (rp_eql rfl rfl rfl) ?_))
   refine AL.rp rfl rfl (rp_move rfl rfl) ?_
   (first | (refine AL.noV rfl rfl rfl rfl ?_) | (refine AL.noU rfl ⟨_, rfl, rfl⟩ rfl ?_) | (refine AL.rpy rfl rfl rfl (rp_move rfl rfl) ?_))
   (first | (refine AL.noV rfl rfl rfl rfl ?_) | (refine AL.noU rfl ⟨_, rfl, rfl⟩ rfl ?_) | (refine AL.rpy rfl rfl rfl (rp_index_str Tryz.underlying9 rfl rfl rfl (by first | rfl | omega) (by assumption)) ?_))
   (first | (refine AL.noV rfl rfl rfl rfl ?_) | (refine AL.noU rfl ⟨_, rfl, rfl⟩ rfl ?_) | (refine AL.rpy rfl rfl rfl (rp_eqlT rfl rfl rfl (by first | assumption | omega | (dsimp only; omega))) ?_) | (refine AL.rpy rfl rfl rfl (rp_eqlF rfl rfl rfl (by first | assumption | omega | (dsimp only; omega))) ?_) | (refine AL.rpy rfl rfl rfl (rp_eql rfl rfl rfl) ?_))
   (first | (refine AL.noV rfl rfl rfl rfl ?_) | (refine AL.noU rfl ⟨_, rfl, rfl⟩ rfl ?_) | (refine AL.rpy rfl rfl rfl (rp_move rfl rfl) ?_))
   (first | (refine AL.noV rfl rfl rfl rfl ?_) | (refine AL.noU rfl ⟨_, rfl, rfl⟩ rfl ?_) | (refine AL.rpy rfl rfl rfl (rp_move rfl rfl) ?_))
   (first | (refine AL.noV rfl rfl rfl rfl ?_) | (refine AL.noU rfl ⟨_, rfl, rfl⟩ rfl ?_) | (refine AL.rpy rfl rfl rfl (rp_len_map Tryz.underlying9 rfl rfl (by assumption)) ?_) | (refine AL.rpy rfl rfl rfl (rp_len_own Tryz.underlying9 rfl rfl) ?_) | (refine AL.rpy rfl rfl rfl (rp_len_sl Tryz.underlying9 rfl rfl) ?_) | (refine AL.rpy rfl rfl rfl (rp_len_nil Tryz.underlying9 rfl rfl) ?_) | (refine AL.rpy rfl rfl rfl (rp_len_str Tryz.underlying9 rfl rfl) ?_))
   (first | (refine AL.noV rfl rfl rfl rfl ?_) | (refine AL.noU rfl ⟨_, rfl, rfl⟩ rfl ?_) | (refine AL.rpy rfl rfl rfl (rp_gtrT rfl rfl rfl (by first | assumption | omega | (dsimp only; omega))) ?_) | (refine AL.rpy rfl rfl rfl (rp_gtrF rfl rfl rfl (by first | assumption | omega | (dsimp only; omega))) ?_) | (refine AL.rpy rfl rfl rfl (rp_gtr rfl rfl rfl) ?_))
   (first | (refine AL.noV rfl rfl rfl rfl ?_) | (refine AL.noU rfl ⟨_, rfl, rfl⟩ rfl ?_) | (refine AL.rpy rfl rfl rfl (rp_pick rfl rfl rfl) ?_))
   refine AL.rp rfl rfl (rp_pick rfl rfl rfl) ?_
   refine AL.nil ?_
   try simp only [thenS, S.put]
   refine AW.condT rfl ?_
   refine AW.seq ?_
   refine AW.region ?_
   refine AL.rp rfl rfl (rp_assign rfl rfl) ?_
   refine AL.nil ?_
   try simp only [thenS, S.put]
   refine AW.ret ?_
   exact ⟨[_], ⟨rfl, trivial⟩, rfl, by simp [tupOf, V.pure, V.has, V.hasL]⟩
  ·have hne : l ≠ [] := by rintro rfl; simp at hn; omega
   obtain ⟨b0, hb0⟩ : ∃ b0, l[0]? = some b0 := ⟨_, List.getElem?_eq_getElem (by omega)⟩
   have hs0 : str.data.toList[0]? = some b0 := by rw [hl]; exact hb0
   by_cases hz : b0.toNat = 48 ∧ 1 < n
   ·have hR : numR l = -2 := by unfold numR; rw [if_neg (by omega), if_pos (.inr ⟨by rw [hb0, b48.1 hz.1], by omega⟩)]
    rw [hR]
    obtain ⟨hz1, hz2⟩ := hz
    refine Fn.intro (n := 48) ⟨Tryz.func11, rfl, rfl, rfl, rfl⟩ (by simp [V.pure, V.has, V.hasL]) (by simp) fun w0 out => ?_
    refine AW.seq ?_
    refine AW.region ?_
    refine AL.rp rfl rfl (rp_assign rfl rfl) ?_
    refine AL.nil ?_
    try simp only [thenS, S.put, enum, List.nil_append, List.cons_append, List.append_nil, Nat.zero_add, Nat.reduceAdd]
    refine AW.seq ?_
    refine AW.seq ?_
    refine AW.region ?_
    refine AL.rp rfl rfl (rp_move rfl rfl) ?_
    (first | (refine AL.rp rfl rfl (rp_len_map Tryz.underlying9 rfl rfl (by assumption)) ?_) | (refine AL.rp rfl rfl (rp_len_own Tryz.underlying9 rfl rfl) ?_) | (refine AL.rp rfl rfl (rp_len_sl Tryz.underlying9 rfl rfl) ?_) | (refine AL.rp rfl rfl (rp_len_nil Tryz.underlying9 rfl rfl) ?_) | (refine AL.rp rfl rfl (rp_len_str Tryz.underlying9 rfl rfl) ?_))
    (first | (refine AL.rp rfl rfl (rp_gtrT rfl rfl rfl (by first | assumption | omega | (dsimp only; omega))) ?_) | (refine AL.rp rfl rfl (rp_gtrF rfl rfl rfl (by first | assumption | omega | (dsimp only; omega))) ?_) | (refine AL.rp rfl rfl (rp_gtr rfl rfl rfl) ?_))
    refine AL.nil ?_
    try simp only [thenS, S.put]
    refine AW.condF rfl ?_
    refine AW.skip ?_
    try simp only [thenS]
    refine AW.seq ?_
    refine AW.seq ?_
    refine AW.region ?_
    refine AL.rp rfl rfl (rp_move rfl rfl) ?_
    (first | (refine AL.rp rfl rfl (rp_len_map Tryz.underlying9 rfl rfl (by assumption)) ?_) | (refine AL.rp rfl rfl (rp_len_own Tryz.underlying9 rfl rfl) ?_) | (refine AL.rp rfl rfl (rp_len_sl Tryz.underlying9 rfl rfl) ?_) | (refine AL.rp rfl rfl (rp_len_nil Tryz.underlying9 rfl rfl) ?_) | (refine AL.rp rfl rfl (rp_len_str Tryz.underlying9 rfl rfl) ?_))
    (first | (refine AL.rp rfl rfl (rp_eqlT rfl rfl rfl (by first | assumption | omega | (dsimp only; omega))) ?_) | (refine AL.rp rfl rfl (rp_eqlF rfl rfl rfl (by first | assumption | omega | (dsimp only; omega))) ?_) | (refine AL.rp rfl rfl (rp_eql rfl rfl rfl) ?_))
    refine AL.rp rfl rfl (rp_move rfl rfl) ?_
    (first | (refine AL.noV rfl rfl rfl rfl ?_) | (refine AL.noU rfl ⟨_, rfl, rfl⟩ rfl ?_) | (refine AL.rpy rfl rfl rfl (rp_move rfl rfl) ?_))
    (first | (refine AL.noV rfl rfl rfl rfl ?_) | (refine AL.noU rfl ⟨_, rfl, rfl⟩ rfl ?_) | (refine AL.rpy rfl rfl rfl (rp_index_str Tryz.underlying9 rfl rfl rfl (by first | rfl | omega) (by assumption)) ?_))
    (first | (refine AL.noV rfl rfl rfl rfl ?_) | (refine AL.noU rfl ⟨_, rfl, rfl⟩ rfl ?_) | (refine AL.rpy rfl rfl rfl (rp_eqlT rfl rfl rfl (by first | assumption | omega | (dsimp only; omega))) ?_) | (refine AL.rpy rfl rfl rfl (rp_eqlF rfl rfl rfl (by first | assumption | omega | (dsimp only; omega))) ?_) | (refine AL.rpy rfl rfl rfl (rp_eql rfl rfl rfl) ?_))
    (first | (refine AL.noV rfl rfl rfl rfl ?_) | (refine AL.noU rfl ⟨_, rfl, rfl⟩ rfl ?_) | (refine AL.rpy rfl rfl rfl (rp_move rfl rfl) ?_))
    (first | (refine AL.noV rfl rfl rfl rfl ?_) | (refine AL.noU rfl ⟨_, rfl, rfl⟩ rfl ?_) | (refine AL.rpy rfl rfl rfl (rp_move rfl rfl) ?_))
    (first | (refine AL.noV rfl rfl rfl rfl ?_) | (refine AL.noU rfl ⟨_, rfl, rfl⟩ rfl ?_) | (refine AL.rpy rfl rfl rfl (rp_len_map Tryz.underlying9 rfl rfl (by assumption)) ?_) | (refine AL.rpy rfl rfl rfl (rp_len_own Tryz.underlying9 rfl rfl) ?_) | (refine AL.rpy rfl rfl rfl (rp_len_sl Tryz.underlying9 rfl rfl) ?_) | (refine AL.rpy rfl rfl rfl (rp_len_nil Tryz.underlying9 rfl rfl) ?_) | (refine AL.rpy rfl rfl rfl (rp_len_str Tryz.underlying9 rfl rfl) ?_))
    (first | (refine AL.noV rfl rfl rfl rfl ?_) | (refine AL.noU rfl ⟨_, rfl, rfl⟩ rfl ?_) | (refine AL.rpy rfl rfl rfl (rp_gtrT rfl rfl rfl (by first | assumption | omega | (dsimp only; omega))) ?_) | (refine AL.rpy rfl rfl rfl (rp_gtrF rfl rfl rfl (by first | assumption | omega | (dsimp only; omega))) ?_) | (refine AL.rpy rfl rfl rfl (rp_gtr rfl rfl rfl) ?_))
    (first | (refine AL.noV rfl rfl rfl rfl ?_) | (refine AL.noU rfl ⟨_, rfl, rfl⟩ rfl ?_) | (refine AL.rpy rfl rfl rfl (rp_pick rfl rfl rfl) ?_))
    refine AL.rp rfl rfl (rp_pick rfl rfl rfl) ?_
    refine AL.nil ?_
    try simp only [thenS, S.put]
    refine AW.condT rfl ?_
    refine AW.seq ?_
    refine AW.region ?_
    refine AL.rp rfl rfl (rp_assign rfl rfl) ?_
    refine AL.nil ?_
    try simp only [thenS, S.put]
    refine AW.ret ?_
    exact ⟨[_], ⟨rfl, trivial⟩, rfl, by simp [tupOf, V.pure, V.has, V.hasL]⟩
   ·have hR : numR l = match Lib.decFrom 0 l with | none => -2 | some n => if 1000000000 < n then 1000000001 else n := by
     unfold numR
     rw [if_neg (by omega), if_neg]
     rintro (h | ⟨h1, h2⟩)
     ·exact hne h
     ·rw [hb0] at h1
      exact hz ⟨b48.2 (by simpa using h1), by omega⟩
    rw [hR]
    refine Fn.intro (n := 48) ⟨Tryz.func11, rfl, rfl, rfl, rfl⟩ (by simp [V.pure, V.has, V.hasL]) (by simp) fun w0 out => ?_
    refine AW.seq ?_
    refine AW.region ?_
    refine AL.rp rfl rfl (rp_assign rfl rfl) ?_
    refine AL.nil ?_
    try simp only [thenS, S.put, enum, List.nil_append, List.cons_append, List.append_nil, Nat.zero_add, Nat.reduceAdd]
    refine AW.seq ?_
    refine AW.seq ?_
    refine AW.region ?_
    refine AL.rp rfl rfl (rp_move rfl rfl) ?_
    (first | (refine AL.rp rfl rfl (rp_len_map Tryz.underlying9 rfl rfl (by assumption)) ?_) | (refine AL.rp rfl rfl (rp_len_own Tryz.underlying9 rfl rfl) ?_) | (refine AL.rp rfl rfl (rp_len_sl Tryz.underlying9 rfl rfl) ?_) | (refine AL.rp rfl rfl (rp_len_nil Tryz.underlying9 rfl rfl) ?_) | (refine AL.rp rfl rfl (rp_len_str Tryz.underlying9 rfl rfl) ?_))
    (first | (refine AL.rp rfl rfl (rp_gtrT rfl rfl rfl (by first | assumption | omega | (dsimp only; omega))) ?_) | (refine AL.rp rfl rfl (rp_gtrF rfl rfl rfl (by first | assumption | omega | (dsimp only; omega))) ?_) | (refine AL.rp rfl rfl (rp_gtr rfl rfl rfl) ?_))
    refine AL.nil ?_
    try simp only [thenS, S.put]
    refine AW.condF rfl ?_
    refine AW.skip ?_
    try simp only [thenS]
    refine AW.seqc (fun s' => s' = ⟨48, [(0, .s str), (1, .i 1000000000)], [], []⟩) ?_ ?_
    ·skip
     by_cases hz1 : b0.toNat = 48
     ·have hz2 : ¬ 1 < n := fun h => hz ⟨hz1, h⟩
      refine AW.seq ?_
      refine AW.region ?_
      refine AL.rp rfl rfl (rp_move rfl rfl) ?_
      (first | (refine AL.rp rfl rfl (rp_len_map Tryz.underlying9 rfl rfl (by assumption)) ?_) | (refine AL.rp rfl rfl (rp_len_own Tryz.underlying9 rfl rfl) ?_) | (refine AL.rp rfl rfl (rp_len_sl Tryz.underlying9 rfl rfl) ?_) | (refine AL.rp rfl rfl (rp_len_nil Tryz.underlying9 rfl rfl) ?_) | (refine AL.rp rfl rfl (rp_len_str Tryz.underlying9 rfl rfl) ?_))
      (first | (refine AL.rp rfl rfl (rp_eqlT rfl rfl rfl (by first | assumption | omega | (dsimp only; omega))) ?_) | (refine AL.rp rfl rfl (rp_eqlF rfl rfl rfl (by first | assumption | omega | (dsimp only; omega))) ?_) | (refine AL.rp rfl rfl (rp_eql rfl rfl rfl) ?_))
      refine AL.rp rfl rfl (rp_move rfl rfl) ?_
      (first | (refine AL.noV rfl rfl rfl rfl ?_) | (refine AL.noU rfl ⟨_, rfl, rfl⟩ rfl ?_) | (refine AL.rpy rfl rfl rfl (rp_move rfl rfl) ?_))
      (first | (refine AL.noV rfl rfl rfl rfl ?_) | (refine AL.noU rfl ⟨_, rfl, rfl⟩ rfl ?_) | (refine AL.rpy rfl rfl rfl (rp_index_str Tryz.underlying9 rfl rfl rfl (by first | rfl | omega) (by assumption)) ?_))
      (first | (refine AL.noV rfl rfl rfl rfl ?_) | (refine AL.noU rfl ⟨_, rfl, rfl⟩ rfl ?_) | (refine AL.rpy rfl rfl rfl (rp_eqlT rfl rfl rfl (by first | assumption | omega | (dsimp only; omega))) ?_) | (refine AL.rpy rfl rfl rfl (rp_eqlF rfl rfl rfl (by first | assumption | omega | (dsimp only; omega))) ?_) | (refine AL.rpy rfl rfl rfl (rp_eql rfl rfl rfl) ?_))
      (first | (refine AL.noV rfl rfl rfl rfl ?_) | (refine AL.noU rfl ⟨_, rfl, rfl⟩ rfl ?_) | (refine AL.rpy rfl rfl rfl (rp_move rfl rfl) ?_))
      (first | (refine AL.noV rfl rfl rfl rfl ?_) | (refine AL.noU rfl ⟨_, rfl, rfl⟩ rfl ?_) | (refine AL.rpy rfl rfl rfl (rp_move rfl rfl) ?_))
      (first | (refine AL.noV rfl rfl rfl rfl ?_) | (refine AL.noU rfl ⟨_, rfl, rfl⟩ rfl ?_) | (refine AL.rpy rfl rfl rfl (rp_len_map Tryz.underlying9 rfl rfl (by assumption)) ?_) | (refine AL.rpy rfl rfl rfl (rp_len_own Tryz.underlying9 rfl rfl) ?_) | (refine AL.rpy rfl rfl rfl (rp_len_sl Tryz.underlying9 rfl rfl) ?_) | (refine AL.rpy rfl rfl rfl (rp_len_nil Tryz.underlying9 rfl rfl) ?_) | (refine AL.rpy rfl rfl rfl (rp_len_str Tryz.underlying9 rfl rfl) ?_))
      (first | (refine AL.noV rfl rfl rfl rfl ?_) | (refine AL.noU rfl ⟨_, rfl, rfl⟩ rfl ?_) | (refine AL.rpy rfl rfl rfl (rp_gtrT rfl rfl rfl (by first | assumption | omega | (dsimp only; omega))) ?_) | (refine AL.rpy rfl rfl rfl (rp_gtrF rfl rfl rfl (by first | assumption | omega | (dsimp only; omega))) ?_) | (refine AL.rpy rfl rfl rfl (rp_gtr rfl rfl rfl) ?_))
      (first | (refine AL.noV rfl rfl rfl rfl ?_) | (refine AL.noU rfl ⟨_, rfl, rfl⟩ rfl ?_) | (refine AL.rpy rfl rfl rfl (rp_pick rfl rfl rfl) ?_))
      refine AL.rp rfl rfl (rp_pick rfl rfl rfl) ?_
      refine AL.nil ?_
      try simp only [thenS, S.put]
      refine AW.condF rfl ?_
      refine AW.skip ?_
      try simp only [thenS]
      refine ⟨_, ?_, rfl⟩
      exact (Less.of rfl (by repeat (first | exact trivial | refine ⟨⟨_, rfl, Wk.refl _⟩, ?_⟩ | refine ⟨⟨_, rfl, Wk.nil _ _⟩, ?_⟩ | refine ⟨⟨_, rfl, Wk.junk _⟩, ?_⟩)) (by repeat (first | exact trivial | refine ⟨rfl, ?_⟩)) rfl)
     ·skip
      refine AW.seq ?_
      refine AW.region ?_
      refine AL.rp rfl rfl (rp_move rfl rfl) ?_
      (first | (refine AL.rp rfl rfl (rp_len_map Tryz.underlying9 rfl rfl (by assumption)) ?_) | (refine AL.rp rfl rfl (rp_len_own Tryz.underlying9 rfl rfl) ?_) | (refine AL.rp rfl rfl (rp_len_sl Tryz.underlying9 rfl rfl) ?_) | (refine AL.rp rfl rfl (rp_len_nil Tryz.underlying9 rfl rfl) ?_) | (refine AL.rp rfl rfl (rp_len_str Tryz.underlying9 rfl rfl) ?_))
      (first | (refine AL.rp rfl rfl (rp_eqlT rfl rfl rfl (by first | assumption | omega | (dsimp only; omega))) ?_) | (refine AL.rp rfl rfl (rp_eqlF rfl rfl rfl (by first | assumption | omega | (dsimp only; omega))) ?_) | (refine AL.rp rfl rfl (rp_eql rfl rfl rfl) ?_))
      refine AL.rp rfl rfl (rp_move rfl rfl) ?_
      (first | (refine AL.noV rfl rfl rfl rfl ?_) | (refine AL.noU rfl ⟨_, rfl, rfl⟩ rfl ?_) | (refine AL.rpy rfl rfl rfl (rp_move rfl rfl) ?_))
      (first | (refine AL.noV rfl rfl rfl rfl ?_) | (refine AL.noU rfl ⟨_, rfl, rfl⟩ rfl ?_) | (refine AL.rpy rfl rfl rfl (rp_index_str Tryz.underlying9 rfl rfl rfl (by first | rfl | omega) (by assumption)) ?_))
      (first | (refine AL.noV rfl rfl rfl rfl ?_) | (refine AL.noU rfl ⟨_, rfl, rfl⟩ rfl ?_) | (refine AL.rpy rfl rfl rfl (rp_eqlT rfl rfl rfl (by first | assumption | omega | (dsimp only; omega))) ?_) | (refine AL.rpy rfl rfl rfl (rp_eqlF rfl rfl rfl (by first | assumption | omega | (dsimp only; omega))) ?_) | (refine AL.rpy rfl rfl rfl (rp_eql rfl rfl rfl) ?_))
      (first | (refine AL.noV rfl rfl rfl rfl ?_) | (refine AL.noU rfl ⟨_, rfl, rfl⟩ rfl ?_) | (refine AL.rpy rfl rfl rfl (rp_move rfl rfl) ?_))
      (first | (refine AL.noV rfl rfl rfl rfl ?_) | (refine AL.noU rfl ⟨_, rfl, rfl⟩ rfl ?_) | (refine AL.rpy rfl rfl rfl (rp_move rfl rfl) ?_))
      (first | (refine AL.noV rfl rfl rfl rfl ?_) | (refine AL.noU rfl ⟨_, rfl, rfl⟩ rfl ?_) | (refine AL.rpy rfl rfl rfl (rp_len_map Tryz.underlying9 rfl rfl (by assumption)) ?_) | (refine AL.rpy rfl rfl rfl (rp_len_own Tryz.underlying9 rfl rfl) ?_) | (refine AL.rpy rfl rfl rfl (rp_len_sl Tryz.underlying9 rfl rfl) ?_) | (refine AL.rpy rfl rfl rfl (rp_len_nil Tryz.underlying9 rfl rfl) ?_) | (refine AL.rpy rfl rfl rfl (rp_len_str Tryz.underlying9 rfl rfl) ?_))
      (first | (refine AL.noV rfl rfl rfl rfl ?_) | (refine AL.noU rfl ⟨_, rfl, rfl⟩ rfl ?_) | (refine AL.rpy rfl rfl rfl (rp_gtrT rfl rfl rfl (by first | assumption | omega | (dsimp only; omega))) ?_) | (refine AL.rpy rfl rfl rfl (rp_gtrF rfl rfl rfl (by first | assumption | omega | (dsimp only; omega))) ?_) | (refine AL.rpy rfl rfl rfl (rp_gtr rfl rfl rfl) ?_))
      (first | (refine AL.noV rfl rfl rfl rfl ?_) | (refine AL.noU rfl ⟨_, rfl, rfl⟩ rfl ?_) | (refine AL.rpy rfl rfl rfl (rp_pick rfl rfl rfl) ?_))
      refine AL.rp rfl rfl (rp_pick rfl rfl rfl) ?_
      refine AL.nil ?_
      try simp only [thenS, S.put]
      refine AW.condF rfl ?_
      refine AW.skip ?_
      try simp only [thenS]
      refine ⟨_, ?_, rfl⟩
      exact (Less.of rfl (by repeat (first | exact trivial | refine ⟨⟨_, rfl, Wk.refl _⟩, ?_⟩ | refine ⟨⟨_, rfl, Wk.nil _ _⟩, ?_⟩ | refine ⟨⟨_, rfl, Wk.junk _⟩, ?_⟩)) (by repeat (first | exact trivial | refine ⟨rfl, ?_⟩)) rfl)
    ·rintro s' rfl
     refine AW.seq ?_
     refine AW.region ?_
     refine AL.rp rfl rfl (rp_assign rfl rfl) ?_
     refine AL.nil ?_
     try simp only [thenS, S.put]
     refine AW.seq ?_
     refine AW.seq ?_
     refine AW.region ?_
     refine AL.rp rfl rfl (rp_assign rfl rfl) ?_
     refine AL.nil ?_
     try simp only [thenS, S.put]
     refine AW.block ?_
     refine AW.loop (fun s' => ∃ k v : Nat, k ≤ n ∧ Lib.decFrom 0 (l.take k) = some v ∧ v < 10 ^ k ∧ s' = ⟨48, [(0, .s str), (1, .i 1000000000), (5, .i v), (6, .i k)], [], []⟩) (fun s' => n - s'.nat 6) ⟨_, ?_, 0, 0, by omega, rfl, by simp, rfl⟩ ?_
     ·exact (Less.of rfl (by repeat (first | exact trivial | refine ⟨⟨_, rfl, Wk.refl _⟩, ?_⟩ | refine ⟨⟨_, rfl, Wk.nil _ _⟩, ?_⟩ | refine ⟨⟨_, rfl, Wk.junk _⟩, ?_⟩)) (by repeat (first | exact trivial | refine ⟨rfl, ?_⟩)) rfl)
     rintro s' ⟨k, v, hk, hv, hvb, rfl⟩
     have hp12 : (10 : Nat) ^ k ≤ 1000000000000 := by
      have : (10 : Nat) ^ k ≤ 10 ^ 12 := Nat.pow_le_pow_right (by omega) (by omega)
      simpa using this
     by_cases hlt : k < n
     ·obtain ⟨b, hb⟩ : ∃ b, l[k]? = some b := ⟨_, List.getElem?_eq_getElem (by omega)⟩
      have hsb : str.data.toList[k]? = some b := by rw [hl]; exact hb
      by_cases hd : 48 ≤ b.toNat ∧ b.toNat ≤ 57
      ·have hnext := Lib.decFrom_take l k 0 v b _ hv hb (digit_some hd)
       have hp : (10 : Nat) ^ (k + 1) = 10 ^ k * 10 := Nat.pow_succ 10 k
       have hcon := Fn.decT (am_Digit b) hd
       obtain ⟨hd1, hd2⟩ := hd
       refine AW.seq ?_
       refine AW.seq ?_
       refine AW.region ?_
       refine AL.rp rfl rfl (rp_move rfl rfl) ?_
       refine AL.rp rfl rfl (rp_move rfl rfl) ?_
       (first | (refine AL.rp rfl rfl (rp_len_map Tryz.underlying9 rfl rfl (by assumption)) ?_) | (refine AL.rp rfl rfl (rp_len_own Tryz.underlying9 rfl rfl) ?_) | (refine AL.rp rfl rfl (rp_len_sl Tryz.underlying9 rfl rfl) ?_) | (refine AL.rp rfl rfl (rp_len_nil Tryz.underlying9 rfl rfl) ?_) | (refine AL.rp rfl rfl (rp_len_str Tryz.underlying9 rfl rfl) ?_))
       (first | (refine AL.rp rfl rfl (rp_lssT rfl rfl rfl (by first | assumption | omega | (dsimp only; omega))) ?_) | (refine AL.rp rfl rfl (rp_lssF rfl rfl rfl (by first | assumption | omega | (dsimp only; omega))) ?_) | (refine AL.rp rfl rfl (rp_lss rfl rfl rfl) ?_))
       refine AL.nil ?_
       try simp only [thenS, S.put]
       refine AW.condT rfl ?_
       refine AW.skip ?_
       try simp only [thenS]
       refine AW.seq ?_
       refine AW.block ?_
       refine AW.seq ?_
       refine AW.seq ?_
       refine AW.region ?_
       refine AL.rp rfl rfl (rp_move rfl rfl) ?_
       refine AL.rp rfl rfl (rp_move rfl rfl) ?_
       refine AL.rp rfl rfl (rp_index_str Tryz.underlying9 rfl rfl rfl (by first | rfl | omega) (by assumption)) ?_
       refine AL.call (post := ?pc34) rfl (sm_call (args := [_]) ?hc34 ⟨Tryz.func25, rfl, rfl, rfl, rfl⟩ rfl rfl rfl rfl) ?_
       case hc34 => exact hcon
       rintro _ rfl -
       try dsimp only
       refine AL.rp rfl rfl (rp_not rfl rfl) ?_
       refine AL.nil ?_
       try simp only [thenS, S.put, S.newObj, setL, V.cs, List.length_cons, List.length_nil, List.take_succ_cons, List.take_zero, List.drop_succ_cons, List.drop_zero, List.drop_nil, List.nil_append, List.cons_append, List.append_nil, Nat.zero_add, Nat.reduceAdd, List.map_cons, List.map_nil, List.set_cons_zero, List.set_cons_succ]
       refine AW.condF rfl ?_
       refine AW.skip ?_
       try simp only [thenS]
       refine AW.region ?_
       refine AL.rp rfl rfl (rp_move rfl rfl) ?_
       refine AL.rp rfl rfl (rp_mul rfl rfl rfl (by first | omega | (dsimp only; omega))) ?_
       refine AL.rp rfl rfl (rp_move rfl rfl) ?_
       refine AL.rp rfl rfl (rp_move rfl rfl) ?_
       refine AL.rp rfl rfl (rp_index_str Tryz.underlying9 rfl rfl rfl (by first | rfl | omega) (by assumption)) ?_
       refine AL.rp rfl rfl (rp_sub8 rfl rfl rfl (by omega)) ?_
       refine AL.rp rfl rfl (rp_conv Tryz.underlying5 (by intro e h; cases h) (by intro h; cases h) Tryz.underlying3 rfl rfl (r := (b.toNat : Int) - 48) (by first | (rw [wrap8]; omega) | (rw [wrap8]; dsimp only; omega) | (rw [wrap16]; omega) | (rw [wrap64 (by omega)] <;> omega) | (rw [wrapU64 (by omega)] <;> omega))) ?_
       refine AL.rp rfl rfl (rp_addZ (((v * 10 + (b.toNat - 48) : Nat) : Int)) rfl rfl rfl (by omega) (by omega)) ?_
       refine AL.rp rfl rfl (rp_assign rfl rfl) ?_
       refine AL.nil ?_
       try simp only [thenS, S.put]
       refine AW.region ?_
       refine AL.rp rfl rfl (rp_move rfl rfl) ?_
       refine AL.rp rfl rfl (rp_add rfl rfl rfl (by first | omega | (dsimp only; omega))) ?_
       refine AL.rp rfl rfl (rp_assign rfl rfl) ?_
       refine AL.nil ?_
       try simp only [thenS, S.put]
       refine ⟨_, ?_, ⟨k + 1, v * 10 + (b.toNat - 48), by omega, hnext, by omega, rfl⟩, ?_⟩
       ·exact (Less.of rfl (by repeat (first | exact trivial | refine ⟨⟨_, rfl, Wk.refl _⟩, ?_⟩ | refine ⟨⟨_, rfl, Wk.nil _ _⟩, ?_⟩ | refine ⟨⟨_, rfl, Wk.junk _⟩, ?_⟩)) (by repeat (first | exact trivial | refine ⟨rfl, ?_⟩)) rfl)
       ·simp [S.nat, fnd]; omega
      ·have hN := dec_none hb hd
       have hcon := Fn.decF (am_Digit b) hd
       refine AW.seq ?_
       refine AW.seq ?_
       refine AW.region ?_
       refine AL.rp rfl rfl (rp_move rfl rfl) ?_
       refine AL.rp rfl rfl (rp_move rfl rfl) ?_
       (first | (refine AL.rp rfl rfl (rp_len_map Tryz.underlying9 rfl rfl (by assumption)) ?_) | (refine AL.rp rfl rfl (rp_len_own Tryz.underlying9 rfl rfl) ?_) | (refine AL.rp rfl rfl (rp_len_sl Tryz.underlying9 rfl rfl) ?_) | (refine AL.rp rfl rfl (rp_len_nil Tryz.underlying9 rfl rfl) ?_) | (refine AL.rp rfl rfl (rp_len_str Tryz.underlying9 rfl rfl) ?_))
       (first | (refine AL.rp rfl rfl (rp_lssT rfl rfl rfl (by first | assumption | omega | (dsimp only; omega))) ?_) | (refine AL.rp rfl rfl (rp_lssF rfl rfl rfl (by first | assumption | omega | (dsimp only; omega))) ?_) | (refine AL.rp rfl rfl (rp_lss rfl rfl rfl) ?_))
       refine AL.nil ?_
       try simp only [thenS, S.put]
       refine AW.condT rfl ?_
       refine AW.skip ?_
       try simp only [thenS]
       refine AW.seq ?_
       refine AW.block ?_
       refine AW.seq ?_
       refine AW.seq ?_
       refine AW.region ?_
       refine AL.rp rfl rfl (rp_move rfl rfl) ?_
       refine AL.rp rfl rfl (rp_move rfl rfl) ?_
       refine AL.rp rfl rfl (rp_index_str Tryz.underlying9 rfl rfl rfl (by first | rfl | omega) (by assumption)) ?_
       refine AL.call (post := ?pc35) rfl (sm_call (args := [_]) ?hc35 ⟨Tryz.func25, rfl, rfl, rfl, rfl⟩ rfl rfl rfl rfl) ?_
       case hc35 => exact hcon
       rintro _ rfl -
       try dsimp only
       refine AL.rp rfl rfl (rp_not rfl rfl) ?_
       refine AL.nil ?_
       try simp only [thenS, S.put, S.newObj, setL, V.cs, List.length_cons, List.length_nil, List.take_succ_cons, List.take_zero, List.drop_succ_cons, List.drop_zero, List.drop_nil, List.nil_append, List.cons_append, List.append_nil, Nat.zero_add, Nat.reduceAdd, List.map_cons, List.map_nil, List.set_cons_zero, List.set_cons_succ]
       refine AW.condT rfl ?_
       refine AW.seq ?_
       refine AW.region ?_
       refine AL.rp rfl rfl (rp_assign rfl rfl) ?_
       refine AL.nil ?_
       try simp only [thenS, S.put]
       refine AW.ret ?_
       exact ⟨[_], ⟨rfl, trivial⟩, by rw [hN]; rfl, by simp [tupOf, V.pure, V.has, V.hasL]⟩
     ·obtain rfl : k = n := by omega
      rw [List.take_of_length_le (by omega)] at hv
      by_cases hbig : 1000000000 < v
      ·skip
       refine AW.seq ?_
       refine AW.seq ?_
       refine AW.region ?_
       refine AL.rp rfl rfl (rp_move rfl rfl) ?_
       refine AL.rp rfl rfl (rp_move rfl rfl) ?_
       (first | (refine AL.rp rfl rfl (rp_len_map Tryz.underlying9 rfl rfl (by assumption)) ?_) | (refine AL.rp rfl rfl (rp_len_own Tryz.underlying9 rfl rfl) ?_) | (refine AL.rp rfl rfl (rp_len_sl Tryz.underlying9 rfl rfl) ?_) | (refine AL.rp rfl rfl (rp_len_nil Tryz.underlying9 rfl rfl) ?_) | (refine AL.rp rfl rfl (rp_len_str Tryz.underlying9 rfl rfl) ?_))
       (first | (refine AL.rp rfl rfl (rp_lssT rfl rfl rfl (by first | assumption | omega | (dsimp only; omega))) ?_) | (refine AL.rp rfl rfl (rp_lssF rfl rfl rfl (by first | assumption | omega | (dsimp only; omega))) ?_) | (refine AL.rp rfl rfl (rp_lss rfl rfl rfl) ?_))
       refine AL.nil ?_
       try simp only [thenS, S.put]
       refine AW.condF rfl ?_
       refine AW.exit ?_
       try simp only [thenS, inBlockS, ↓reduceIte, Nat.reduceEqDiff]
       refine AW.seq ?_
       refine AW.seq ?_
       refine AW.region ?_
       refine AL.rp rfl rfl (rp_move rfl rfl) ?_
       refine AL.rp rfl rfl (rp_move rfl rfl) ?_
       (first | (refine AL.rp rfl rfl (rp_gtrT rfl rfl rfl (by first | assumption | omega | (dsimp only; omega))) ?_) | (refine AL.rp rfl rfl (rp_gtrF rfl rfl rfl (by first | assumption | omega | (dsimp only; omega))) ?_) | (refine AL.rp rfl rfl (rp_gtr rfl rfl rfl) ?_))
       refine AL.nil ?_
       try simp only [thenS, S.put]
       refine AW.condT rfl ?_
       refine AW.seq ?_
       refine AW.region ?_
       refine AL.rp rfl rfl (rp_move rfl rfl) ?_
       refine AL.rp rfl rfl (rp_add rfl rfl rfl (by first | omega | (dsimp only; omega))) ?_
       refine AL.rp rfl rfl (rp_assign rfl rfl) ?_
       refine AL.nil ?_
       try simp only [thenS, S.put]
       refine AW.ret ?_
       exact ⟨[_], ⟨rfl, trivial⟩, by rw [hv]; simp only; rw [if_pos hbig]; rfl, by simp [tupOf, V.pure, V.has, V.hasL]⟩
      ·skip
       refine AW.seq ?_
       refine AW.seq ?_
       refine AW.region ?_
       refine AL.rp rfl rfl (rp_move rfl rfl) ?_
       refine AL.rp rfl rfl (rp_move rfl rfl) ?_
       (first | (refine AL.rp rfl rfl (rp_len_map Tryz.underlying9 rfl rfl (by assumption)) ?_) | (refine AL.rp rfl rfl (rp_len_own Tryz.underlying9 rfl rfl) ?_) | (refine AL.rp rfl rfl (rp_len_sl Tryz.underlying9 rfl rfl) ?_) | (refine AL.rp rfl rfl (rp_len_nil Tryz.underlying9 rfl rfl) ?_) | (refine AL.rp rfl rfl (rp_len_str Tryz.underlying9 rfl rfl) ?_))
       (first | (refine AL.rp rfl rfl (rp_lssT rfl rfl rfl (by first | assumption | omega | (dsimp only; omega))) ?_) | (refine AL.rp rfl rfl (rp_lssF rfl rfl rfl (by first | assumption | omega | (dsimp only; omega))) ?_) | (refine AL.rp rfl rfl (rp_lss rfl rfl rfl) ?_))
       refine AL.nil ?_
       try simp only [thenS, S.put]
       refine AW.condF rfl ?_
       refine AW.exit ?_
       try simp only [thenS, inBlockS, ↓reduceIte, Nat.reduceEqDiff]
       refine AW.seq ?_
       refine AW.seq ?_
       refine AW.region ?_
       refine AL.rp rfl rfl (rp_move rfl rfl) ?_
       refine AL.rp rfl rfl (rp_move rfl rfl) ?_
       (first | (refine AL.rp rfl rfl (rp_gtrT rfl rfl rfl (by first | assumption | omega | (dsimp only; omega))) ?_) | (refine AL.rp rfl rfl (rp_gtrF rfl rfl rfl (by first | assumption | omega | (dsimp only; omega))) ?_) | (refine AL.rp rfl rfl (rp_gtr rfl rfl rfl) ?_))
       refine AL.nil ?_
       try simp only [thenS, S.put]
       refine AW.condF rfl ?_
       refine AW.skip ?_
       try simp only [thenS]
       refine AW.seq ?_
       refine AW.region ?_
       refine AL.rp rfl rfl (rp_move rfl rfl) ?_
       refine AL.rp rfl rfl (rp_assign rfl rfl) ?_
       refine AL.nil ?_
       try simp only [thenS, S.put]
       refine AW.ret ?_
       exact ⟨[_], ⟨rfl, trivial⟩, by rw [hv]; simp only; rw [if_neg hbig]; rfl, by simp [tupOf, V.pure, V.has, V.hasL]⟩
end Go.Proofs.YtkikceoccmoanaaGreatDoor
namespace Go.Proofs.YtkikceoccmoanaaGreatDoor
open Go.RowKit
set_option linter.unusedSimpArgs false
set_option linter.unusedVariables false
set_option maxRecDepth 100000

def numM (m : Nat) (l : List UInt8) : Int := if 12 < l.length then -1 else if l = [] ∨ (l[0]? = some 48 ∧ 1 < l.length) then -2 else match Lib.decFrom 0 l with | none => -2 | some n => if m < n then (m : Int) + 1 else n
set_option maxHeartbeats 1000000 in
theorem am_NumberM (m : Nat) (hm : m ≤ 1000000000) (str : ByteArray) (l : List UInt8) (hl : str.data.toList = l) : Fn Tryz.prog 11 [.s str, .i (m : Int)] (fun v => v = .i (numM m l)) := by
 obtain ⟨n, hn⟩ : ∃ n, l.length = n := ⟨_, rfl⟩
 have hsz : str.size = n := by rw [← hn, ← hl]; exact Array.length_toList.symm
 by_cases h12 : 12 < n
 ·have hR : numM m l = -1 := by unfold numM; rw [if_pos (by omega)]
  rw [hR]
  refine Fn.intro (n := 48) ⟨Tryz.func11, rfl, rfl, rfl, rfl⟩ (by simp [V.pure, V.has, V.hasL]) (by simp) fun w0 out => ?_
  refine AW.seq ?_
  refine AW.region ?_
  refine AL.rp rfl rfl (rp_assign rfl rfl) ?_
  refine AL.nil ?_
  try simp only [thenS, S.put, enum, List.nil_append, List.cons_append, List.append_nil, Nat.zero_add, Nat.reduceAdd]
  refine AW.seq ?_
  refine AW.seq ?_
  refine AW.region ?_
  refine AL.rp rfl rfl (rp_move rfl rfl) ?_
  (first | (refine AL.rp rfl rfl (rp_len_map Tryz.underlying9 rfl rfl (by assumption)) ?_) | (refine AL.rp rfl rfl (rp_len_own Tryz.underlying9 rfl rfl) ?_) | (refine AL.rp rfl rfl (rp_len_sl Tryz.underlying9 rfl rfl) ?_) | (refine AL.rp rfl rfl (rp_len_nil Tryz.underlying9 rfl rfl) ?_) | (refine AL.rp rfl rfl (rp_len_str Tryz.underlying9 rfl rfl) ?_))
  (first | (refine AL.rp rfl rfl (rp_gtrT rfl rfl rfl (by first | assumption | omega | (dsimp only; omega))) ?_) | (refine AL.rp rfl rfl (rp_gtrF rfl rfl rfl (by first | assumption | omega | (dsimp only; omega))) ?_) | (refine AL.rp rfl rfl (rp_gtr rfl rfl rfl) ?_))
  refine AL.nil ?_
  try simp only [thenS, S.put]
  refine AW.condT rfl ?_
  refine AW.seq ?_
  refine AW.region ?_
  refine AL.rp rfl rfl (rp_assign rfl rfl) ?_
  refine AL.nil ?_
  try simp only [thenS, S.put]
  refine AW.ret ?_
  exact ⟨[_], ⟨rfl, trivial⟩, rfl, by simp [tupOf, V.pure, V.has, V.hasL]⟩
 ·by_cases h00 : n = 0
  ·have hR : numM m l = -2 := by unfold numM; rw [if_neg (by omega), if_pos (.inl (List.length_eq_zero_iff.1 (by omega)))]
   rw [hR]
   refine Fn.intro (n := 48) ⟨Tryz.func11, rfl, rfl, rfl, rfl⟩ (by simp [V.pure, V.has, V.hasL]) (by simp) fun w0 out => ?_
   refine AW.seq ?_
   refine AW.region ?_
   refine AL.rp rfl rfl (rp_assign rfl rfl) ?_
   refine AL.nil ?_
   try simp only [thenS, S.put, enum, List.nil_append, List.cons_append, List.append_nil, Nat.zero_add, Nat.reduceAdd]
   refine AW.seq ?_
   refine AW.seq ?_
   refine AW.region ?_
   refine AL.rp rfl rfl (rp_move rfl rfl) ?_
   (first | (refine AL.rp rfl rfl (rp_len_map Tryz.underlying9 rfl rfl (by assumption)) ?_) | (refine AL.rp rfl rfl (rp_len_own Tryz.underlying9 rfl rfl) ?_) | (refine AL.rp rfl rfl (rp_len_sl Tryz.underlying9 rfl rfl) ?_) | (refine AL.rp rfl rfl (rp_len_nil Tryz.underlying9 rfl rfl) ?_) | (refine AL.rp rfl rfl (rp_len_str Tryz.underlying9 rfl rfl) ?_))
   (first | (refine AL.rp rfl rfl (rp_gtrT rfl rfl rfl (by first | assumption | omega | (dsimp only; omega))) ?_) | (refine AL.rp rfl rfl (rp_gtrF rfl rfl rfl (by first | assumption | omega | (dsimp only; omega))) ?_) | (refine AL.rp rfl rfl (rp_gtr rfl rfl rfl) ?_))
   refine AL.nil ?_
   try simp only [thenS, S.put]
   refine AW.condF rfl ?_
   refine AW.skip ?_
   try simp only [thenS]
   refine AW.seq ?_
   refine AW.seq ?_
   refine AW.region ?_
   refine AL.rp rfl rfl (rp_move rfl rfl) ?_
   (first | (refine AL.rp rfl rfl (rp_len_map Tryz.underlying9 rfl rfl (by assumption)) ?_) | (refine AL.rp rfl rfl (rp_len_own Tryz.underlying9 rfl rfl) ?_) | (refine AL.rp rfl rfl (rp_len_sl Tryz.underlying9 rfl rfl) ?_) | (refine AL.rp rfl rfl (rp_len_nil Tryz.underlying9 rfl rfl) ?_) | (refine AL.rp rfl rfl (rp_len_str Tryz.underlying9 rfl rfl) ?_))
   (first | (refine AL.rp rfl rfl (rp_eqlT rfl rfl rfl (by first | assumption | omega | (dsimp only; omega))) ?_) | (refine AL.rp rfl rfl (rp_eqlF rfl rfl rfl (by first | assumption | omega | (dsimp only; omega))) ?_) | (refine AL.rp rfl rfl (rp_eql rfl rfl rfl) ?_))
   refine AL.rp rfl rfl (rp_move rfl rfl) ?_
   (first | (refine AL.noV rfl rfl rfl rfl ?_) | (refine AL.noU rfl ⟨_, rfl, rfl⟩ rfl ?_) | (refine AL.rpy rfl rfl rfl (rp_move rfl rfl) ?_))
   (first | (refine AL.noV rfl rfl rfl rfl ?_) | (refine AL.noU rfl ⟨_, rfl, rfl⟩ rfl ?_) | (refine AL.rpy rfl rfl rfl (rp_index_str Tryz.underlying9 rfl rfl rfl (by first | rfl | omega) (by assumption)) ?_))
   (first | (refine AL.noV rfl rfl rfl rfl ?_) | (refine AL.noU rfl ⟨_, rfl, rfl⟩ rfl ?_) | (refine AL.rpy rfl rfl rfl (rp_eqlT rfl rfl rfl (by first | assumption | omega | (dsimp only; omega))) ?_) | (refine AL.rpy rfl rfl rfl (rp_eqlF rfl rfl rfl (by first | assumption | omega | (dsimp only; omega))) ?_) | (refine AL.rpy rfl rfl rfl (rp_eql rfl rfl rfl) ?_))
   (first | (refine AL.noV rfl rfl rfl rfl ?_) | (refine AL.noU rfl ⟨_, rfl, rfl⟩ rfl ?_) | (refine AL.rpy rfl rfl rfl (rp_move rfl rfl) ?_))
   (first | (refine AL.noV rfl rfl rfl rfl ?_) | (refine AL.noU rfl ⟨_, rfl, rfl⟩ rfl ?_) | (refine AL.rpy rfl rfl rfl (rp_move rfl rfl) ?_))
   (first | (refine AL.noV rfl rfl rfl rfl ?_) | (refine AL.noU rfl ⟨_, rfl, rfl⟩ rfl ?_) | (refine AL.rpy rfl rfl rfl (rp_len_map Tryz.underlying9 rfl rfl (by assumption)) ?_) | (refine AL.rpy rfl rfl rfl (rp_len_own Tryz.underlying9 rfl rfl) ?_) | (refine AL.rpy rfl rfl rfl (rp_len_sl Tryz.underlying9 rfl rfl) ?_) | (refine AL.rpy rfl rfl rfl (rp_len_nil Tryz.underlying9 rfl rfl) ?_) | (refine AL.rpy rfl rfl rfl (rp_len_str Tryz.underlying9 rfl rfl) ?_))
   (first | (refine AL.noV rfl rfl rfl rfl ?_) | (refine AL.noU rfl ⟨_, rfl, rfl⟩ rfl ?_) | (refine AL.rpy rfl rfl rfl (rp_gtrT rfl rfl rfl (by first | assumption | omega | (dsimp only; omega))) ?_) | (refine AL.rpy rfl rfl rfl (rp_gtrF rfl rfl rfl (by first | assumption | omega | (dsimp only; omega))) ?_) | (refine AL.rpy rfl rfl rfl (rp_gtr rfl rfl rfl) ?_))
   (first | (refine AL.noV rfl rfl rfl rfl ?_) | (refine AL.noU rfl ⟨_, rfl, rfl⟩ rfl ?_) | (refine AL.rpy rfl rfl rfl (rp_pick rfl rfl rfl) ?_))
   refine AL.rp rfl rfl (rp_pick rfl rfl rfl) ?_
   refine AL.nil ?_
   try simp only [thenS, S.put]
   refine AW.condT rfl ?_
   refine AW.seq ?_
   refine AW.region ?_
   refine AL.rp rfl rfl (rp_assign rfl rfl) ?_
   refine AL.nil ?_
   try simp only [thenS, S.put]
   refine AW.ret ?_
   exact ⟨[_], ⟨rfl, trivial⟩, rfl, by simp [tupOf, V.pure, V.has, V.hasL]⟩
  ·have hne : l ≠ [] := by rintro rfl; simp at hn; omega
   obtain ⟨b0, hb0⟩ : ∃ b0, l[0]? = some b0 := ⟨_, List.getElem?_eq_getElem (by omega)⟩
   have hs0 : str.data.toList[0]? = some b0 := by rw [hl]; exact hb0
   by_cases hz : b0.toNat = 48 ∧ 1 < n
   ·have hR : numM m l = -2 := by unfold numM; rw [if_neg (by omega), if_pos (.inr ⟨by rw [hb0, b48.1 hz.1], by omega⟩)]
    rw [hR]
    obtain ⟨hz1, hz2⟩ := hz
    refine Fn.intro (n := 48) ⟨Tryz.func11, rfl, rfl, rfl, rfl⟩ (by simp [V.pure, V.has, V.hasL]) (by simp) fun w0 out => ?_
    refine AW.seq ?_
    refine AW.region ?_
    refine AL.rp rfl rfl (rp_assign rfl rfl) ?_
    refine AL.nil ?_
    try simp only [thenS, S.put, enum, List.nil_append, List.cons_append, List.append_nil, Nat.zero_add, Nat.reduceAdd]
    refine AW.seq ?_
    refine AW.seq ?_
    refine AW.region ?_
    refine AL.rp rfl rfl (rp_move rfl rfl) ?_
    (first | (refine AL.rp rfl rfl (rp_len_map Tryz.underlying9 rfl rfl (by assumption)) ?_) | (refine AL.rp rfl rfl (rp_len_own Tryz.underlying9 rfl rfl) ?_) | (refine AL.rp rfl rfl (rp_len_sl Tryz.underlying9 rfl rfl) ?_) | (refine AL.rp rfl rfl (rp_len_nil Tryz.underlying9 rfl rfl) ?_) | (refine AL.rp rfl rfl (rp_len_str Tryz.underlying9 rfl rfl) ?_))
    (first | (refine AL.rp rfl rfl (rp_gtrT rfl rfl rfl (by first | assumption | omega | (dsimp only; omega))) ?_) | (refine AL.rp rfl rfl (rp_gtrF rfl rfl rfl (by first | assumption | omega | (dsimp only; omega))) ?_) | (refine AL.rp rfl rfl (rp_gtr rfl rfl rfl) ?_))
    refine AL.nil ?_
    try simp only [thenS, S.put]
    refine AW.condF rfl ?_
    refine AW.skip ?_
    try simp only [thenS]
    refine AW.seq ?_
    refine AW.seq ?_
    refine AW.region ?_
    refine AL.rp rfl rfl (rp_move rfl rfl) ?_
    (first | (refine AL.rp rfl rfl (rp_len_map Tryz.underlying9 rfl rfl (by assumption)) ?_) | (refine AL.rp rfl rfl (rp_len_own Tryz.underlying9 rfl rfl) ?_) | (refine AL.rp rfl rfl (rp_len_sl Tryz.underlying9 rfl rfl) ?_) | (refine AL.rp rfl rfl (rp_len_nil Tryz.underlying9 rfl rfl) ?_) | (refine AL.rp rfl rfl (rp_len_str Tryz.underlying9 rfl rfl) ?_))
    (first | (refine AL.rp rfl rfl (rp_eqlT rfl rfl rfl (by first | assumption | omega | (dsimp only; omega))) ?_) | (refine AL.rp rfl rfl (rp_eqlF rfl rfl rfl (by first | assumption | omega | (dsimp only; omega))) ?_) | (refine AL.rp rfl rfl (rp_eql rfl rfl rfl) ?_))
    refine AL.rp rfl rfl (rp_move rfl rfl) ?_
    (first | (refine AL.noV rfl rfl rfl rfl ?_) | (refine AL.noU rfl ⟨_, rfl, rfl⟩ rfl ?_) | (refine AL.rpy rfl rfl rfl (rp_move rfl rfl) ?_))
    (first | (refine AL.noV rfl rfl rfl rfl ?_) | (refine AL.noU rfl ⟨_, rfl, rfl⟩ rfl ?_) | (refine AL.rpy rfl rfl rfl (rp_index_str Tryz.underlying9 rfl rfl rfl (by first | rfl | omega) (by assumption)) ?_))
    (first | (refine AL.noV rfl rfl rfl rfl ?_) | (refine AL.noU rfl ⟨_, rfl, rfl⟩ rfl ?_) | (refine AL.rpy rfl rfl rfl (rp_eqlT rfl rfl rfl (by first | assumption | omega | (dsimp only; omega))) ?_) | (refine AL.rpy rfl rfl rfl (rp_eqlF rfl rfl rfl (by first | assumption | omega | (dsimp only; omega))) ?_) | (refine AL.rpy rfl rfl rfl (rp_eql rfl rfl rfl) ?_))
    (first | (refine AL.noV rfl rfl rfl rfl ?_) | (refine AL.noU rfl ⟨_, rfl, rfl⟩ rfl ?_) | (refine AL.rpy rfl rfl rfl (rp_move rfl rfl) ?_))
    (first | (refine AL.noV rfl rfl rfl rfl ?_) | (refine AL.noU rfl ⟨_, rfl, rfl⟩ rfl ?_) | (refine AL.rpy rfl rfl rfl (rp_move rfl rfl) ?_))
    (first | (refine AL.noV rfl rfl rfl rfl ?_) | (refine AL.noU rfl ⟨_, rfl, rfl⟩ rfl ?_) | (refine AL.rpy rfl rfl rfl (rp_len_map Tryz.underlying9 rfl rfl (by assumption)) ?_) | (refine AL.rpy rfl rfl rfl (rp_len_own Tryz.underlying9 rfl rfl) ?_) | (refine AL.rpy rfl rfl rfl (rp_len_sl Tryz.underlying9 rfl rfl) ?_) | (refine AL.rpy rfl rfl rfl (rp_len_nil Tryz.underlying9 rfl rfl) ?_) | (refine AL.rpy rfl rfl rfl (rp_len_str Tryz.underlying9 rfl rfl) ?_))
    (first | (refine AL.noV rfl rfl rfl rfl ?_) | (refine AL.noU rfl ⟨_, rfl, rfl⟩ rfl ?_) | (refine AL.rpy rfl rfl rfl (rp_gtrT rfl rfl rfl (by first | assumption | omega | (dsimp only; omega))) ?_) | (refine AL.rpy rfl rfl rfl (rp_gtrF rfl rfl rfl (by first | assumption | omega | (dsimp only; omega))) ?_) | (refine AL.rpy rfl rfl rfl (rp_gtr rfl rfl rfl) ?_))
    (first | (refine AL.noV rfl rfl rfl rfl ?_) | (refine AL.noU rfl ⟨_, rfl, rfl⟩ rfl ?_) | (refine AL.rpy rfl rfl rfl (rp_pick rfl rfl rfl) ?_))
    refine AL.rp rfl rfl (rp_pick rfl rfl rfl) ?_
    refine AL.nil ?_
    try simp only [thenS, S.put]
    refine AW.condT rfl ?_
    refine AW.seq ?_
    refine AW.region ?_
    refine AL.rp rfl rfl (rp_assign rfl rfl) ?_
    refine AL.nil ?_
    try simp only [thenS, S.put]
    refine AW.ret ?_
    exact ⟨[_], ⟨rfl, trivial⟩, rfl, by simp [tupOf, V.pure, V.has, V.hasL]⟩
   ·have hR : numM m l = match Lib.decFrom 0 l with | none => -2 | some n => if m < n then (m : Int) + 1 else n := by
     unfold numM
     rw [if_neg (by omega), if_neg]
     rintro (h | ⟨h1, h2⟩)
     ·exact hne h
     ·rw [hb0] at h1
      exact hz ⟨b48.2 (by simpa using h1), by omega⟩
    rw [hR]
    refine Fn.intro (n := 48) ⟨Tryz.func11, rfl, rfl, rfl, rfl⟩ (by simp [V.pure, V.has, V.hasL]) (by simp) fun w0 out => ?_
    refine AW.seq ?_
    refine AW.region ?_
    refine AL.rp rfl rfl (rp_assign rfl rfl) ?_
    refine AL.nil ?_
    try simp only [thenS, S.put, enum, List.nil_append, List.cons_append, List.append_nil, Nat.zero_add, Nat.reduceAdd]
    refine AW.seq ?_
    refine AW.seq ?_
    refine AW.region ?_
    refine AL.rp rfl rfl (rp_move rfl rfl) ?_
    (first | (refine AL.rp rfl rfl (rp_len_map Tryz.underlying9 rfl rfl (by assumption)) ?_) | (refine AL.rp rfl rfl (rp_len_own Tryz.underlying9 rfl rfl) ?_) | (refine AL.rp rfl rfl (rp_len_sl Tryz.underlying9 rfl rfl) ?_) | (refine AL.rp rfl rfl (rp_len_nil Tryz.underlying9 rfl rfl) ?_) | (refine AL.rp rfl rfl (rp_len_str Tryz.underlying9 rfl rfl) ?_))
    (first | (refine AL.rp rfl rfl (rp_gtrT rfl rfl rfl (by first | assumption | omega | (dsimp only; omega))) ?_) | (refine AL.rp rfl rfl (rp_gtrF rfl rfl rfl (by first | assumption | omega | (dsimp only; omega))) ?_) | (refine AL.rp rfl rfl (rp_gtr rfl rfl rfl) ?_))
    refine AL.nil ?_
    try simp only [thenS, S.put]
    refine AW.condF rfl ?_
    refine AW.skip ?_
    try simp only [thenS]
    refine AW.seqc (fun s' => s' = ⟨48, [(0, .s str), (1, .i (m : Int))], [], []⟩) ?_ ?_
    ·skip
     by_cases hz1 : b0.toNat = 48
     ·have hz2 : ¬ 1 < n := fun h => hz ⟨hz1, h⟩
      refine AW.seq ?_
      refine AW.region ?_
      refine AL.rp rfl rfl (rp_move rfl rfl) ?_
      (first | (refine AL.rp rfl rfl (rp_len_map Tryz.underlying9 rfl rfl (by assumption)) ?_) | (refine AL.rp rfl rfl (rp_len_own Tryz.underlying9 rfl rfl) ?_) | (refine AL.rp rfl rfl (rp_len_sl Tryz.underlying9 rfl rfl) ?_) | (refine AL.rp rfl rfl (rp_len_nil Tryz.underlying9 rfl rfl) ?_) | (refine AL.rp rfl rfl (rp_len_str Tryz.underlying9 rfl rfl) ?_))
      (first | (refine AL.rp rfl rfl (rp_eqlT rfl rfl rfl (by first | assumption | omega | (dsimp only; omega))) ?_) | (refine AL.rp rfl rfl (rp_eqlF rfl rfl rfl (by first | assumption | omega | (dsimp only; omega))) ?_) | (refine AL.rp rfl rfl (rp_eql rfl rfl rfl) ?_))
      refine AL.rp rfl rfl (rp_move rfl rfl) ?_
      (first | (refine AL.noV rfl rfl rfl rfl ?_) | (refine AL.noU rfl ⟨_, rfl, rfl⟩ rfl ?_) | (refine AL.rpy rfl rfl rfl (rp_move rfl rfl) ?_))
      (first | (refine AL.noV rfl rfl rfl rfl ?_) | (refine AL.noU rfl ⟨_, rfl, rfl⟩ rfl ?_) | (refine AL.rpy rfl rfl rfl (rp_index_str Tryz.underlying9 rfl rfl rfl (by first | rfl | omega) (by assumption)) ?_))
      (first | (refine AL.noV rfl rfl rfl rfl ?_) | (refine AL.noU rfl ⟨_, rfl, rfl⟩ rfl ?_) | (refine AL.rpy rfl rfl rfl (rp_eqlT rfl rfl rfl (by first | assumption | omega | (dsimp only; omega))) ?_) | (refine AL.rpy rfl rfl rfl (rp_eqlF rfl rfl rfl (by first | assumption | omega | (dsimp only; omega))) ?_) | (refine AL.rpy rfl rfl rfl (rp_eql rfl rfl rfl) ?_))
      (first | (refine AL.noV rfl rfl rfl rfl ?_) | (refine AL.noU rfl ⟨_, rfl, rfl⟩ rfl ?_) | (refine AL.rpy rfl rfl rfl (rp_move rfl rfl) ?_))
      (first | (refine AL.noV rfl rfl rfl rfl ?_) | (refine AL.noU rfl ⟨_, rfl, rfl⟩ rfl ?_) | (refine AL.rpy rfl rfl rfl (rp_move rfl rfl) ?_))
      (first | (refine AL.noV rfl rfl rfl rfl ?_) | (refine AL.noU rfl ⟨_, rfl, rfl⟩ rfl ?_) | (refine AL.rpy rfl rfl rfl (rp_len_map Tryz.underlying9 rfl rfl (by assumption)) ?_) | (refine AL.rpy rfl rfl rfl (rp_len_own Tryz.underlying9 rfl rfl) ?_) | (refine AL.rpy rfl rfl rfl (rp_len_sl Tryz.underlying9 rfl rfl) ?_) | (refine AL.rpy rfl rfl rfl (rp_len_nil Tryz.underlying9 rfl rfl) ?_) | (refine AL.rpy rfl rfl rfl (rp_len_str Tryz.underlying9 rfl rfl) ?_))
      (first | (refine AL.noV rfl rfl rfl rfl ?_) | (refine AL.noU rfl ⟨_, rfl, rfl⟩ rfl ?_) | (refine AL.rpy rfl rfl rfl (rp_gtrT rfl rfl rfl (by first | assumption | omega | (dsimp only; omega))) ?_) | (refine AL.rpy rfl rfl rfl (rp_gtrF rfl rfl rfl (by first | assumption | omega | (dsimp only; omega))) ?_) | (refine AL.rpy rfl rfl rfl (rp_gtr rfl rfl rfl) ?_))
      (first | (refine AL.noV rfl rfl rfl rfl ?_) | (refine AL.noU rfl ⟨_, rfl, rfl⟩ rfl ?_) | (refine AL.rpy rfl rfl rfl (rp_pick rfl rfl rfl) ?_))
      refine AL.rp rfl rfl (rp_pick rfl rfl rfl) ?_
      refine AL.nil ?_
      try simp only [thenS, S.put]
      refine AW.condF rfl ?_
      refine AW.skip ?_
      try simp only [thenS]
      refine ⟨_, ?_, rfl⟩
      exact (Less.of rfl (by repeat (first | exact trivial | refine ⟨⟨_, rfl, Wk.refl _⟩, ?_⟩ | refine ⟨⟨_, rfl, Wk.nil _ _⟩, ?_⟩ | refine ⟨⟨_, rfl, Wk.junk _⟩, ?_⟩)) (by repeat (first | exact trivial | refine ⟨rfl, ?_⟩)) rfl)
     ·skip
      refine AW.seq ?_
      refine AW.region ?_
      refine AL.rp rfl rfl (rp_move rfl rfl) ?_
      (first | (refine AL.rp rfl rfl (rp_len_map Tryz.underlying9 rfl rfl (by assumption)) ?_) | (refine AL.rp rfl rfl (rp_len_own Tryz.underlying9 rfl rfl) ?_) | (refine AL.rp rfl rfl (rp_len_sl Tryz.underlying9 rfl rfl) ?_) | (refine AL.rp rfl rfl (rp_len_nil Tryz.underlying9 rfl rfl) ?_) | (refine AL.rp rfl rfl (rp_len_str Tryz.underlying9 rfl rfl) ?_))
      (first | (refine AL.rp rfl rfl (rp_eqlT rfl rfl rfl (by first | assumption | omega | (dsimp only; omega))) ?_) | (refine AL.rp rfl rfl (rp_eqlF rfl rfl rfl (by first | assumption | omega | (dsimp only; omega))) ?_) | (refine AL.rp rfl rfl (rp_eql rfl rfl rfl) ?_))
      refine AL.rp rfl rfl (rp_move rfl rfl) ?_
      (first | (refine AL.noV rfl rfl rfl rfl ?_) | (refine AL.noU rfl ⟨_, rfl, rfl⟩ rfl ?_) | (refine AL.rpy rfl rfl rfl (rp_move rfl rfl) ?_))
      (first | (refine AL.noV rfl rfl rfl rfl ?_) | (refine AL.noU rfl ⟨_, rfl, rfl⟩ rfl ?_) | (refine AL.rpy rfl rfl rfl (rp_index_str Tryz.underlying9 rfl rfl rfl (by first | rfl | omega) (by assumption)) ?_))
      (first | (refine AL.noV rfl rfl rfl rfl ?_) | (refine AL.noU rfl ⟨_, rfl, rfl⟩ rfl ?_) | (refine AL.rpy rfl rfl rfl (rp_eqlT rfl rfl rfl (by first | assumption | omega | (dsimp only; omega))) ?_) | (refine AL.rpy rfl rfl rfl (rp_eqlF rfl rfl rfl (by first | assumption | omega | (dsimp only; omega))) ?_) | (refine AL.rpy rfl rfl rfl (rp_eql rfl rfl rfl) ?_))
      (first | (refine AL.noV rfl rfl rfl rfl ?_) | (refine AL.noU rfl ⟨_, rfl, rfl⟩ rfl ?_) | (refine AL.rpy rfl rfl rfl (rp_move rfl rfl) ?_))
      (first | (refine AL.noV rfl rfl rfl rfl ?_) | (refine AL.noU rfl ⟨_, rfl, rfl⟩ rfl ?_) | (refine AL.rpy rfl rfl rfl (rp_move rfl rfl) ?_))
      (first | (refine AL.noV rfl rfl rfl rfl ?_) | (refine AL.noU rfl ⟨_, rfl, rfl⟩ rfl ?_) | (refine AL.rpy rfl rfl rfl (rp_len_map Tryz.underlying9 rfl rfl (by assumption)) ?_) | (refine AL.rpy rfl rfl rfl (rp_len_own Tryz.underlying9 rfl rfl) ?_) | (refine AL.rpy rfl rfl rfl (rp_len_sl Tryz.underlying9 rfl rfl) ?_) | (refine AL.rpy rfl rfl rfl (rp_len_nil Tryz.underlying9 rfl rfl) ?_) | (refine AL.rpy rfl rfl rfl (rp_len_str Tryz.underlying9 rfl rfl) ?_))
      (first | (refine AL.noV rfl rfl rfl rfl ?_) | (refine AL.noU rfl ⟨_, rfl, rfl⟩ rfl ?_) | (refine AL.rpy rfl rfl rfl (rp_gtrT rfl rfl rfl (by first | assumption | omega | (dsimp only; omega))) ?_) | (refine AL.rpy rfl rfl rfl (rp_gtrF rfl rfl rfl (by first | assumption | omega | (dsimp only; omega))) ?_) | (refine AL.rpy rfl rfl rfl (rp_gtr rfl rfl rfl) ?_))
      (first | (refine AL.noV rfl rfl rfl rfl ?_) | (refine AL.noU rfl ⟨_, rfl, rfl⟩ rfl ?_) | (refine AL.rpy rfl rfl rfl (rp_pick rfl rfl rfl) ?_))
      refine AL.rp rfl rfl (rp_pick rfl rfl rfl) ?_
      refine AL.nil ?_
      try simp only [thenS, S.put]
      refine AW.condF rfl ?_
      refine AW.skip ?_
      try simp only [thenS]
      refine ⟨_, ?_, rfl⟩
      exact (Less.of rfl (by repeat (first | exact trivial | refine ⟨⟨_, rfl, Wk.refl _⟩, ?_⟩ | refine ⟨⟨_, rfl, Wk.nil _ _⟩, ?_⟩ | refine ⟨⟨_, rfl, Wk.junk _⟩, ?_⟩)) (by repeat (first | exact trivial | refine ⟨rfl, ?_⟩)) rfl)
    ·rintro s' rfl
     refine AW.seq ?_
     refine AW.region ?_
     refine AL.rp rfl rfl (rp_assign rfl rfl) ?_
     refine AL.nil ?_
     try simp only [thenS, S.put]
     refine AW.seq ?_
     refine AW.seq ?_
     refine AW.region ?_
     refine AL.rp rfl rfl (rp_assign rfl rfl) ?_
     refine AL.nil ?_
     try simp only [thenS, S.put]
     refine AW.block ?_
     refine AW.loop (fun s' => ∃ k v : Nat, k ≤ n ∧ Lib.decFrom 0 (l.take k) = some v ∧ v < 10 ^ k ∧ s' = ⟨48, [(0, .s str), (1, .i (m : Int)), (5, .i v), (6, .i k)], [], []⟩) (fun s' => n - s'.nat 6) ⟨_, ?_, 0, 0, by omega, rfl, by simp, rfl⟩ ?_
     ·exact (Less.of rfl (by repeat (first | exact trivial | refine ⟨⟨_, rfl, Wk.refl _⟩, ?_⟩ | refine ⟨⟨_, rfl, Wk.nil _ _⟩, ?_⟩ | refine ⟨⟨_, rfl, Wk.junk _⟩, ?_⟩)) (by repeat (first | exact trivial | refine ⟨rfl, ?_⟩)) rfl)
     rintro s' ⟨k, v, hk, hv, hvb, rfl⟩
     have hp12 : (10 : Nat) ^ k ≤ 1000000000000 := by
      have : (10 : Nat) ^ k ≤ 10 ^ 12 := Nat.pow_le_pow_right (by omega) (by omega)
      simpa using this
     by_cases hlt : k < n
     ·obtain ⟨b, hb⟩ : ∃ b, l[k]? = some b := ⟨_, List.getElem?_eq_getElem (by omega)⟩
      have hsb : str.data.toList[k]? = some b := by rw [hl]; exact hb
      by_cases hd : 48 ≤ b.toNat ∧ b.toNat ≤ 57
      ·have hnext := Lib.decFrom_take l k 0 v b _ hv hb (digit_some hd)
       have hp : (10 : Nat) ^ (k + 1) = 10 ^ k * 10 := Nat.pow_succ 10 k
       have hcon := Fn.decT (am_Digit b) hd
       obtain ⟨hd1, hd2⟩ := hd
       refine AW.seq ?_
       refine AW.seq ?_
       refine AW.region ?_
       refine AL.rp rfl rfl (rp_move rfl rfl) ?_
       refine AL.rp rfl rfl (rp_move rfl rfl) ?_
       (first | (refine AL.rp rfl rfl (rp_len_map Tryz.underlying9 rfl rfl (by assumption)) ?_) | (refine AL.rp rfl rfl (rp_len_own Tryz.underlying9 rfl rfl) ?_) | (refine AL.rp rfl rfl (rp_len_sl Tryz.underlying9 rfl rfl) ?_) | (refine AL.rp rfl rfl (rp_len_nil Tryz.underlying9 rfl rfl) ?_) | (refine AL.rp rfl rfl (rp_len_str Tryz.underlying9 rfl rfl) ?_))
       (first | (refine AL.rp rfl rfl (rp_lssT rfl rfl rfl (by first | assumption | omega | (dsimp only; omega))) ?_) | (refine AL.rp rfl rfl (rp_lssF rfl rfl rfl (by first | assumption | omega | (dsimp only; omega))) ?_) | (refine AL.rp rfl rfl (rp_lss rfl rfl rfl) ?_))
       refine AL.nil ?_
       try simp only [thenS, S.put]
       refine AW.condT rfl ?_
       refine AW.skip ?_
       try simp only [thenS]
       refine AW.seq ?_
       refine AW.block ?_
       refine AW.seq ?_
       refine AW.seq ?_
       refine AW.region ?_
       refine AL.rp rfl rfl (rp_move rfl rfl) ?_
       refine AL.rp rfl rfl (rp_move rfl rfl) ?_
       refine AL.rp rfl rfl (rp_index_str Tryz.underlying9 rfl rfl rfl (by first | rfl | omega) (by assumption)) ?_
       refine AL.call (post := ?pc36) rfl (sm_call (args := [_]) ?hc36 ⟨Tryz.func25, rfl, rfl, rfl, rfl⟩ rfl rfl rfl rfl) ?_
       case hc36 => exact hcon
       rintro _ rfl -
       try dsimp only
       refine AL.rp rfl rfl (rp_not rfl rfl) ?_
       refine AL.nil ?_
       try simp only [thenS, S.put, S.newObj, setL, V.cs, List.length_cons, List.length_nil, List.take_succ_cons, List.take_zero, List.drop_succ_cons, List.drop_zero, List.drop_nil, List.nil_append, List.cons_append, List.append_nil, Nat.zero_add, Nat.reduceAdd, List.map_cons, List.map_nil, List.set_cons_zero, List.set_cons_succ]
       refine AW.condF rfl ?_
       refine AW.skip ?_
       try simp only [thenS]
       refine AW.region ?_
       refine AL.rp rfl rfl (rp_move rfl rfl) ?_
       refine AL.rp rfl rfl (rp_mul rfl rfl rfl (by first | omega | (dsimp only; omega))) ?_
       refine AL.rp rfl rfl (rp_move rfl rfl) ?_
       refine AL.rp rfl rfl (rp_move rfl rfl) ?_
       refine AL.rp rfl rfl (rp_index_str Tryz.underlying9 rfl rfl rfl (by first | rfl | omega) (by assumption)) ?_
       refine AL.rp rfl rfl (rp_sub8 rfl rfl rfl (by omega)) ?_
       refine AL.rp rfl rfl (rp_conv Tryz.underlying5 (by intro e h; cases h) (by intro h; cases h) Tryz.underlying3 rfl rfl (r := (b.toNat : Int) - 48) (by first | (rw [wrap8]; omega) | (rw [wrap8]; dsimp only; omega) | (rw [wrap16]; omega) | (rw [wrap64 (by omega)] <;> omega) | (rw [wrapU64 (by omega)] <;> omega))) ?_
       refine AL.rp rfl rfl (rp_addZ (((v * 10 + (b.toNat - 48) : Nat) : Int)) rfl rfl rfl (by omega) (by omega)) ?_
       refine AL.rp rfl rfl (rp_assign rfl rfl) ?_
       refine AL.nil ?_
       try simp only [thenS, S.put]
       refine AW.region ?_
       refine AL.rp rfl rfl (rp_move rfl rfl) ?_
       refine AL.rp rfl rfl (rp_add rfl rfl rfl (by first | omega | (dsimp only; omega))) ?_
       refine AL.rp rfl rfl (rp_assign rfl rfl) ?_
       refine AL.nil ?_
       try simp only [thenS, S.put]
       refine ⟨_, ?_, ⟨k + 1, v * 10 + (b.toNat - 48), by omega, hnext, by omega, rfl⟩, ?_⟩
       ·exact (Less.of rfl (by repeat (first | exact trivial | refine ⟨⟨_, rfl, Wk.refl _⟩, ?_⟩ | refine ⟨⟨_, rfl, Wk.nil _ _⟩, ?_⟩ | refine ⟨⟨_, rfl, Wk.junk _⟩, ?_⟩)) (by repeat (first | exact trivial | refine ⟨rfl, ?_⟩)) rfl)
       ·simp [S.nat, fnd]; omega
      ·have hN := dec_none hb hd
       have hcon := Fn.decF (am_Digit b) hd
       refine AW.seq ?_
       refine AW.seq ?_
       refine AW.region ?_
       refine AL.rp rfl rfl (rp_move rfl rfl) ?_
       refine AL.rp rfl rfl (rp_move rfl rfl) ?_
       (first | (refine AL.rp rfl rfl (rp_len_map Tryz.underlying9 rfl rfl (by assumption)) ?_) | (refine AL.rp rfl rfl (rp_len_own Tryz.underlying9 rfl rfl) ?_) | (refine AL.rp rfl rfl (rp_len_sl Tryz.underlying9 rfl rfl) ?_) | (refine AL.rp rfl rfl (rp_len_nil Tryz.underlying9 rfl rfl) ?_) | (refine AL.rp rfl rfl (rp_len_str Tryz.underlying9 rfl rfl) ?_))
       (first | (refine AL.rp rfl rfl (rp_lssT rfl rfl rfl (by first | assumption | omega | (dsimp only; omega))) ?_) | (refine AL.rp rfl rfl (rp_lssF rfl rfl rfl (by first | assumption | omega | (dsimp only; omega))) ?_) | (refine AL.rp rfl rfl (rp_lss rfl rfl rfl) ?_))
       refine AL.nil ?_
       try simp only [thenS, S.put]
       refine AW.condT rfl ?_
       refine AW.skip ?_
       try simp only [thenS]
       refine AW.seq ?_
       refine AW.block ?_
       refine AW.seq ?_
       refine AW.seq ?_
       refine AW.region ?_
       refine AL.rp rfl rfl (rp_move rfl rfl) ?_
       refine AL.rp rfl rfl (rp_move rfl rfl) ?_
       refine AL.rp rfl rfl (rp_index_str Tryz.underlying9 rfl rfl rfl (by first | rfl | omega) (by assumption)) ?_
       refine AL.call (post := ?pc37) rfl (sm_call (args := [_]) ?hc37 ⟨Tryz.func25, rfl, rfl, rfl, rfl⟩ rfl rfl rfl rfl) ?_
       case hc37 => exact hcon
       rintro _ rfl -
       try dsimp only
       refine AL.rp rfl rfl (rp_not rfl rfl) ?_
       refine AL.nil ?_
       try simp only [thenS, S.put, S.newObj, setL, V.cs, List.length_cons, List.length_nil, List.take_succ_cons, List.take_zero, List.drop_succ_cons, List.drop_zero, List.drop_nil, List.nil_append, List.cons_append, List.append_nil, Nat.zero_add, Nat.reduceAdd, List.map_cons, List.map_nil, List.set_cons_zero, List.set_cons_succ]
       refine AW.condT rfl ?_
       refine AW.seq ?_
       refine AW.region ?_
       refine AL.rp rfl rfl (rp_assign rfl rfl) ?_
       refine AL.nil ?_
       try simp only [thenS, S.put]
       refine AW.ret ?_
       exact ⟨[_], ⟨rfl, trivial⟩, by rw [hN]; rfl, by simp [tupOf, V.pure, V.has, V.hasL]⟩
     ·obtain rfl : k = n := by omega
      rw [List.take_of_length_le (by omega)] at hv
      by_cases hbig : m < v
      ·skip
       refine AW.seq ?_
       refine AW.seq ?_
       refine AW.region ?_
       refine AL.rp rfl rfl (rp_move rfl rfl) ?_
       refine AL.rp rfl rfl (rp_move rfl rfl) ?_
       (first | (refine AL.rp rfl rfl (rp_len_map Tryz.underlying9 rfl rfl (by assumption)) ?_) | (refine AL.rp rfl rfl (rp_len_own Tryz.underlying9 rfl rfl) ?_) | (refine AL.rp rfl rfl (rp_len_sl Tryz.underlying9 rfl rfl) ?_) | (refine AL.rp rfl rfl (rp_len_nil Tryz.underlying9 rfl rfl) ?_) | (refine AL.rp rfl rfl (rp_len_str Tryz.underlying9 rfl rfl) ?_))
       (first | (refine AL.rp rfl rfl (rp_lssT rfl rfl rfl (by first | assumption | omega | (dsimp only; omega))) ?_) | (refine AL.rp rfl rfl (rp_lssF rfl rfl rfl (by first | assumption | omega | (dsimp only; omega))) ?_) | (refine AL.rp rfl rfl (rp_lss rfl rfl rfl) ?_))
       refine AL.nil ?_
       try simp only [thenS, S.put]
       refine AW.condF rfl ?_
       refine AW.exit ?_
       try simp only [thenS, inBlockS, ↓reduceIte, Nat.reduceEqDiff]
       refine AW.seq ?_
       refine AW.seq ?_
       refine AW.region ?_
       refine AL.rp rfl rfl (rp_move rfl rfl) ?_
       refine AL.rp rfl rfl (rp_move rfl rfl) ?_
       (first | (refine AL.rp rfl rfl (rp_gtrT rfl rfl rfl (by first | assumption | omega | (dsimp only; omega))) ?_) | (refine AL.rp rfl rfl (rp_gtrF rfl rfl rfl (by first | assumption | omega | (dsimp only; omega))) ?_) | (refine AL.rp rfl rfl (rp_gtr rfl rfl rfl) ?_))
       refine AL.nil ?_
       try simp only [thenS, S.put]
       refine AW.condT rfl ?_
       refine AW.seq ?_
       refine AW.region ?_
       refine AL.rp rfl rfl (rp_move rfl rfl) ?_
       refine AL.rp rfl rfl (rp_add rfl rfl rfl (by first | omega | (dsimp only; omega))) ?_
       refine AL.rp rfl rfl (rp_assign rfl rfl) ?_
       refine AL.nil ?_
       try simp only [thenS, S.put]
       refine AW.ret ?_
       exact ⟨[_], ⟨rfl, trivial⟩, by rw [hv]; simp only; rw [if_pos hbig]; rfl, by simp [tupOf, V.pure, V.has, V.hasL]⟩
      ·skip
       refine AW.seq ?_
       refine AW.seq ?_
       refine AW.region ?_
       refine AL.rp rfl rfl (rp_move rfl rfl) ?_
       refine AL.rp rfl rfl (rp_move rfl rfl) ?_
       (first | (refine AL.rp rfl rfl (rp_len_map Tryz.underlying9 rfl rfl (by assumption)) ?_) | (refine AL.rp rfl rfl (rp_len_own Tryz.underlying9 rfl rfl) ?_) | (refine AL.rp rfl rfl (rp_len_sl Tryz.underlying9 rfl rfl) ?_) | (refine AL.rp rfl rfl (rp_len_nil Tryz.underlying9 rfl rfl) ?_) | (refine AL.rp rfl rfl (rp_len_str Tryz.underlying9 rfl rfl) ?_))
       (first | (refine AL.rp rfl rfl (rp_lssT rfl rfl rfl (by first | assumption | omega | (dsimp only; omega))) ?_) | (refine AL.rp rfl rfl (rp_lssF rfl rfl rfl (by first | assumption | omega | (dsimp only; omega))) ?_) | (refine AL.rp rfl rfl (rp_lss rfl rfl rfl) ?_))
       refine AL.nil ?_
       try simp only [thenS, S.put]
       refine AW.condF rfl ?_
       refine AW.exit ?_
       try simp only [thenS, inBlockS, ↓reduceIte, Nat.reduceEqDiff]
       refine AW.seq ?_
       refine AW.seq ?_
       refine AW.region ?_
       refine AL.rp rfl rfl (rp_move rfl rfl) ?_
       refine AL.rp rfl rfl (rp_move rfl rfl) ?_
       (first | (refine AL.rp rfl rfl (rp_gtrT rfl rfl rfl (by first | assumption | omega | (dsimp only; omega))) ?_) | (refine AL.rp rfl rfl (rp_gtrF rfl rfl rfl (by first | assumption | omega | (dsimp only; omega))) ?_) | (refine AL.rp rfl rfl (rp_gtr rfl rfl rfl) ?_))
       refine AL.nil ?_
       try simp only [thenS, S.put]
       refine AW.condF rfl ?_
       refine AW.skip ?_
       try simp only [thenS]
       refine AW.seq ?_
       refine AW.region ?_
       refine AL.rp rfl rfl (rp_move rfl rfl) ?_
       refine AL.rp rfl rfl (rp_assign rfl rfl) ?_
       refine AL.nil ?_
       try simp only [thenS, S.put]
       refine AW.ret ?_
       exact ⟨[_], ⟨rfl, trivial⟩, by rw [hv]; simp only; rw [if_neg hbig]; rfl, by simp [tupOf, V.pure, V.has, V.hasL]⟩
end Go.Proofs.YtkikceoccmoanaaGreatDoor
namespace Go.Proofs.YtkikceoccmoanaaGreatDoor
open Go.RowKit
set_option linter.unusedSimpArgs false
set_option linter.unusedVariables false

theorem pcs_mem {c : UInt8} {t : List UInt8} : ∀ {i : Nat} {x : List UInt8}, x ∈ pcs c t i → x.length ≤ t.length
  | 0, x, h => by cases h
  | i + 1, x, h => by
    unfold pcs at h
    split at h
    · rcases List.mem_append.1 h with h | h
      · exact pcs_mem h
      · simp only [List.mem_singleton] at h
        subst h
        simp only [List.length_drop, List.length_take]
        omega
    · exact pcs_mem h
def prt (l : List UInt8) : List (List UInt8) := pcsE 32 l (l.length + 1)
theorem pcs_pre {c : UInt8} {u x : List UInt8} (hu : c ∉ u) : ∀ i, i ≤ u.length → pcs c (u ++ x) i = [] ∧ frm c (u ++ x) i = 0
  | 0, _ => ⟨rfl, rfl⟩
  | i + 1, h => by
    obtain ⟨h1, h2⟩ := pcs_pre (x := x) hu i (by omega)
    have h3 : ¬ (u ++ x)[i]? = some c := by
      rw [List.getElem?_append_left (by omega)]
      intro h4
      exact hu (List.mem_of_getElem? h4)
    unfold pcs frm
    rw [if_neg h3, if_neg h3]
    exact ⟨h1, h2⟩
theorem pcs_app {c : UInt8} {u r : List UInt8} (hu : c ∉ u) : ∀ j, pcs c (u ++ c :: r) (u.length + 1 + j) = u :: pcs c r j ∧ frm c (u ++ c :: r) (u.length + 1 + j) = u.length + 1 + frm c r j
  | 0 => by
    obtain ⟨h1, h2⟩ := pcs_pre (x := c :: r) hu u.length (Nat.le_refl _)
    have h3 : (u ++ c :: r)[u.length]? = some c := by simp
    refine ⟨?_, ?_⟩
    · show pcs c (u ++ c :: r) (u.length + 1) = [u]
      unfold pcs
      rw [if_pos h3, h1, h2]
      simp
    · show frm c (u ++ c :: r) (u.length + 1) = u.length + 1
      unfold frm
      rw [if_pos h3]
  | j + 1 => by
    obtain ⟨h1, h2⟩ := pcs_app (r := r) hu j
    have h3 : (u ++ c :: r)[u.length + 1 + j]? = r[j]? := by
      rw [List.getElem?_append_right (by omega)]
      rw [show u.length + 1 + j - u.length = j + 1 by omega]
      rfl
    have h4 : ((u ++ c :: r).take (u.length + 1 + j)).drop (u.length + 1 + frm c r j) = (r.take j).drop (frm c r j) := by
      rw [show u ++ c :: r = (u ++ [c]) ++ r by simp, show u.length + 1 + j = (u ++ [c]).length + j by simp, List.take_length_add_append, show u.length + 1 + frm c r j = (u ++ [c]).length + frm c r j by simp, List.drop_length_add_append]
    refine ⟨?_, ?_⟩
    · show pcs c (u ++ c :: r) (u.length + 1 + j + 1) = u :: pcs c r (j + 1)
      show (if (u ++ c :: r)[u.length + 1 + j]? = some c then _ else _) = u :: (if r[j]? = some c then _ else _)
      rw [h3]
      split
      · rw [h1, h2, h4]; rfl
      · exact h1
    · show (if (u ++ c :: r)[u.length + 1 + j]? = some c then u.length + 1 + j + 1 else frm c (u ++ c :: r) (u.length + 1 + j)) = u.length + 1 + (if r[j]? = some c then j + 1 else frm c r j)
      rw [h3]
      split
      · omega
      · exact h2
/-- A text of whole lines. -/
def joinL (c : UInt8) (l : List (List UInt8)) : List UInt8 := l.flatMap (· ++ [c])
theorem pcs_join {c : UInt8} : ∀ {l : List (List UInt8)}, (∀ u ∈ l, c ∉ u) → pcs c (joinL c l) (joinL c l).length = l ∧ frm c (joinL c l) (joinL c l).length = (joinL c l).length
  | [], _ => ⟨rfl, rfl⟩
  | u :: l, h => by
    obtain ⟨h1, h2⟩ := pcs_join (l := l) fun v hv => h v (List.mem_cons_of_mem _ hv)
    have e : joinL c (u :: l) = u ++ c :: joinL c l := by simp [joinL]
    obtain ⟨h3, h4⟩ := pcs_app (c := c) (u := u) (r := joinL c l) (h u List.mem_cons_self) (joinL c l).length
    have el : (joinL c (u :: l)).length = u.length + 1 + (joinL c l).length := by rw [e]; simp; omega
    rw [el, e, h3, h4, h1, h2]
    exact ⟨rfl, rfl⟩
/-- The pieces that are closed, put together again. -/
theorem join_pcs {c : UInt8} {t : List UInt8} : ∀ i, i ≤ t.length → joinL c (pcs c t i) = t.take (frm c t i)
  | 0, _ => rfl
  | i + 1, h => by
    have ih := join_pcs (c := c) (t := t) i (by omega)
    have hf := frm_le c t i
    show joinL c (if t[i]? = some c then pcs c t i ++ [(t.take i).drop (frm c t i)] else pcs c t i) = t.take (if t[i]? = some c then i + 1 else frm c t i)
    by_cases e : t[i]? = some c
    · rw [if_pos e, if_pos e]
      unfold joinL at ih ⊢
      rw [List.flatMap_append, ih, List.take_add_one, e]
      simp only [List.flatMap_cons, List.flatMap_nil, List.append_nil, Option.toList]
      rw [← List.append_assoc, show t.take (frm c t i) = (t.take i).take (frm c t i) by rw [List.take_take, Nat.min_eq_left hf], List.take_append_drop]
    · rw [if_neg e, if_neg e]
      exact ih
theorem pcsE_pre {c : UInt8} {t : List UInt8} : ∀ i, i ≤ t.length → pcsE c t i = pcs c t i ∧ frmE c t i = frm c t i
  | 0, _ => ⟨rfl, rfl⟩
  | i + 1, h => by
    obtain ⟨h1, h2⟩ := pcsE_pre (c := c) (t := t) i (by omega)
    have hne : ¬ i = t.length := by omega
    have e1 : pcsE c t (i + 1) = if i = t.length ∨ t[i]? = some c then pcsE c t i ++ [(t.take i).drop (frmE c t i)] else pcsE c t i := rfl
    have e2 : frmE c t (i + 1) = if i = t.length ∨ t[i]? = some c then i + 1 else frmE c t i := rfl
    have e3 : pcs c t (i + 1) = if t[i]? = some c then pcs c t i ++ [(t.take i).drop (frm c t i)] else pcs c t i := rfl
    have e4 : frm c t (i + 1) = if t[i]? = some c then i + 1 else frm c t i := rfl
    rw [e1, e2, e3, e4, h1, h2]
    by_cases e : t[i]? = some c
    · rw [if_pos e, if_pos e, if_pos (.inr e), if_pos (.inr e)]
      exact ⟨rfl, rfl⟩
    · have e' : ¬ (i = t.length ∨ t[i]? = some c) := fun h => h.elim hne e
      rw [if_neg e, if_neg e, if_neg e', if_neg e']
      exact ⟨rfl, rfl⟩
theorem pcsE_end (c : UInt8) (t : List UInt8) : pcsE c t (t.length + 1) = pcs c t t.length ++ [t.drop (frm c t t.length)] := by
  obtain ⟨h1, h2⟩ := pcsE_pre (c := c) (t := t) t.length (Nat.le_refl _)
  have e1 : pcsE c t (t.length + 1) = if t.length = t.length ∨ t[t.length]? = some c then pcsE c t t.length ++ [(t.take t.length).drop (frmE c t t.length)] else pcsE c t t.length := rfl
  rw [e1, if_pos (.inl rfl), h1, h2, List.take_length]
theorem decFrom_snoc : ∀ (r : List UInt8) (acc : Nat) (d : UInt8), Lib.decFrom acc (r ++ [d]) = (Lib.decFrom acc r).bind fun m => (Lib.digitVal d).map fun v => m * 10 + v
  | [], acc, d => by
    simp only [List.nil_append, Lib.decFrom, Option.bind_some]
    cases Lib.digitVal d <;> rfl
  | b :: r, acc, d => by
    simp only [List.cons_append, Lib.decFrom]
    cases Lib.digitVal b with
    | none => rfl
    | some v => exact decFrom_snoc r _ d
theorem digits_big {n : Nat} (h : ¬ n < 10) : Lib.decDigits n = Lib.decDigits (n / 10) ++ [UInt8.ofNat (48 + n % 10)] := by rw [Lib.decDigits, dif_neg h]
theorem ofNat_toNat {v : Nat} (h : v < 10) : (UInt8.ofNat (48 + v)).toNat = 48 + v := by
  simp only [UInt8.toNat_ofNat']
  omega
theorem digit_of {v : Nat} (h : v < 10) : Lib.digitVal (UInt8.ofNat (48 + v)) = some v := by
  unfold Lib.digitVal
  rw [ofNat_toNat h, if_pos (by omega)]
  congr 1
  omega
/-- The digits of a number spell it, with no nought ahead. -/
theorem digits_spell (n : Nat) : Lib.decFrom 0 (Lib.decDigits n) = some n ∧ Lib.decDigits n ≠ [] ∧ (1 ≤ n → (Lib.decDigits n)[0]? ≠ some 48) ∧ (Lib.decDigits n)[0]? ≠ some 45 ∧ (Lib.decDigits n)[0]? ≠ some 43 := by
  induction n using Nat.strongRecOn with
  | _ n ih =>
    by_cases h : n < 10
    · rw [Lib.decDigits_one h]
      refine ⟨?_, by simp, fun h1 h2 => ?_, fun h2 => ?_, fun h2 => ?_⟩
      · simp only [Lib.decFrom, digit_of h]
        simp
      all_goals
        simp only [List.getElem?_cons_zero, Option.some.injEq] at h2
        have := congrArg UInt8.toNat h2
        rw [ofNat_toNat h] at this
        simp at this
        try omega
    · obtain ⟨h1, h2, h3, h4, h5⟩ := ih (n / 10) (by omega)
      rw [digits_big h]
      have h0 : ∀ x : UInt8, (Lib.decDigits (n / 10))[0]? ≠ some x → (Lib.decDigits (n / 10) ++ [UInt8.ofNat (48 + n % 10)])[0]? ≠ some x := fun x hx => by
        rw [List.getElem?_append_left (List.length_pos_iff.2 h2)]
        exact hx
      refine ⟨?_, by simp, fun _ => h0 _ (h3 (by omega)), h0 _ h4, h0 _ h5⟩
      rw [decFrom_snoc, h1, digit_of (by omega)]
      simp only [Option.bind_some, Option.map_some, Option.some.injEq]
      omega
theorem digitVal_inv {d : UInt8} {v : Nat} (h : Lib.digitVal d = some v) : v < 10 ∧ d = UInt8.ofNat (48 + v) := by
  unfold Lib.digitVal at h
  split at h
  · rename_i hd
    simp only [Option.some.injEq] at h
    subst h
    refine ⟨by omega, UInt8.toNat_inj.1 ?_⟩
    rw [ofNat_toNat (by omega)]
    omega
  · cases h
/-- Digits without a nought ahead are those of the number that they spell. -/
theorem digits_only (k : Nat) : ∀ (q : List UInt8) (n : Nat), q.length = k → q ≠ [] → ¬ (q[0]? = some 48 ∧ 1 < q.length) → Lib.decFrom 0 q = some n → q = Lib.decDigits n := by
  induction k with
  | zero => intro q n h1 h2; exact absurd (List.length_eq_zero_iff.1 h1) h2
  | succ k ih =>
    intro q n hk hne hcan hd
    obtain ⟨r, d, rfl⟩ : ∃ r d, q = r ++ [d] := ⟨q.dropLast, q.getLast hne, (List.dropLast_concat_getLast hne).symm⟩
    rw [decFrom_snoc] at hd
    cases hr : Lib.decFrom 0 r with
    | none => rw [hr] at hd; cases hd
    | some m =>
      cases hv : Lib.digitVal d with
      | none => rw [hr, hv] at hd; cases hd
      | some v =>
        rw [hr, hv] at hd
        simp only [Option.bind_some, Option.map_some, Option.some.injEq] at hd
        obtain ⟨hv10, rfl⟩ := digitVal_inv hv
        by_cases h0 : r = []
        · subst h0
          simp only [Lib.decFrom, Option.some.injEq] at hr
          subst hr
          rw [Lib.decDigits_one (by omega), ← hd]
          simp
        · have hlen : 0 < r.length := List.length_pos_iff.2 h0
          have hr0 : r[0]? ≠ some 48 := fun h => hcan ⟨by rw [List.getElem?_append_left hlen]; exact h, by simp; omega⟩
          have hrd := ih r m (by simpa using hk) h0 (fun h => hr0 h.1) hr
          have hm : 1 ≤ m := by
            refine Classical.byContradiction fun hm => ?_
            obtain rfl : m = 0 := by omega
            rw [Lib.decDigits_one (by omega)] at hrd
            rw [hrd] at hr0
            exact hr0 rfl
          rw [digits_big (n := n) (by omega), show n / 10 = m by omega, show n % 10 = v by omega, ← hrd]
theorem numM_only {m : Nat} {q : List UInt8} {b : Int} (h : numM m q = b) (h1 : 0 ≤ b) (h2 : b ≤ m) : q = Lib.decDigits b.toNat := by
  unfold numM at h
  split at h
  · omega
  split at h
  · omega
  rename_i h3 h4
  cases hd : Lib.decFrom 0 q with
  | none => rw [hd] at h; simp only at h; omega
  | some n =>
    rw [hd] at h
    simp only at h
    split at h
    · omega
    · have := digits_only q.length q n rfl (fun e => h4 (.inl e)) (fun e => h4 (.inr e)) hd
      rw [this, show b.toNat = n by omega]
theorem digits_len : ∀ (k n : Nat), n < 10 ^ (k + 1) → (Lib.decDigits n).length ≤ k + 1
  | 0, n, h => by rw [Lib.decDigits_one (by simpa using h)]; simp
  | k + 1, n, h => by
    by_cases h10 : n < 10
    · rw [Lib.decDigits_one h10]; simp
    · rw [digits_big h10, List.length_append]
      have := digits_len k (n / 10) (by rw [Nat.pow_succ] at h; omega)
      simp only [List.length_cons, List.length_nil]
      omega
theorem digits_byte {n : Nat} {b : UInt8} (h : b ∈ Lib.decDigits n) : 48 ≤ b.toNat ∧ b.toNat ≤ 57 := by
  obtain ⟨k, hk⟩ := List.getElem?_of_mem h
  obtain ⟨d, hd⟩ := Lib.digit_of_decFrom _ 0 n (digits_spell n).1 k b hk
  obtain ⟨h1, rfl⟩ := digitVal_inv hd
  rw [ofNat_toNat h1]
  omega
theorem numM_digits {m n : Nat} (h2 : n ≤ m) (hm : m ≤ 1000000000) : numM m (Lib.decDigits n) = n := by
  obtain ⟨s1, s2, s3, _, _⟩ := digits_spell n
  have hl := digits_len 9 n (by omega)
  have hc : ¬ (Lib.decDigits n = [] ∨ ((Lib.decDigits n)[0]? = some 48 ∧ 1 < (Lib.decDigits n).length)) := by
    rintro (h | ⟨h, h'⟩)
    · exact s2 h
    · by_cases h0 : 1 ≤ n
      · exact s3 h0 h
      · obtain rfl : n = 0 := by omega
        rw [Lib.decDigits_one (by omega)] at h'
        simp at h'
  unfold numM
  rw [if_neg (by omega), if_neg hc, s1]
  simp only
  rw [if_neg (by omega)]
theorem idx_no {c : UInt8} {q : List UInt8} : ∀ {p : List UInt8}, c ∉ p → Lib.indexByte (p ++ c :: q) c = p.length
  | [], _ => by simp [Lib.indexByte]
  | b :: p, h => by
    have ih := idx_no (q := q) (p := p) fun hm => h (List.mem_cons_of_mem _ hm)
    have hb : (b == c) = false := by
      rw [beq_eq_false_iff_ne]
      rintro rfl
      exact h List.mem_cons_self
    have hn : ¬ ((p.length : Int) = -1) := by omega
    simp [Lib.indexByte, hb, ih, hn]
theorem trim_at (d : List UInt8) : Lib.trimSuffix (d ++ [10]) [10] = d := by
  unfold Lib.trimSuffix Lib.hasSuffix
  rw [if_pos (List.isSuffixOf_iff_suffix.2 ⟨d, rfl⟩)]
  simp
theorem ln_at {r : List UInt8} : ∀ {u : List UInt8}, (10 : UInt8) ∉ u → ln1 (u ++ 10 :: r) = u ++ [10] ∧ ln2 (u ++ 10 :: r) = r
  | [], _ => ⟨by simp [ln1], by simp [ln2]⟩
  | b :: u, h => by
    obtain ⟨h1, h2⟩ := ln_at (r := r) (u := u) fun hm => h (List.mem_cons_of_mem _ hm)
    have hb : ¬ b = 10 := by
      rintro rfl
      exact h List.mem_cons_self
    rw [List.cons_append]
    unfold ln1 ln2
    rw [if_neg hb, if_neg hb, h1, h2]
    exact ⟨rfl, rfl⟩
/-- The lines of a text, each with its line feed. -/
def lns (l : List UInt8) : List (List UInt8) := if h : l = [] then [] else ln1 l :: lns (ln2 l)
termination_by l.length
decreasing_by exact ln2_lt l h
theorem lns_nil : lns [] = [] := by rw [lns]; simp
theorem lns_cons {l : List UInt8} (h : l ≠ []) : lns l = ln1 l :: lns (ln2 l) := by rw [lns, dif_neg h]
theorem lns_join : ∀ {l : List (List UInt8)}, (∀ u ∈ l, (10 : UInt8) ∉ u) → lns (joinL 10 l) = l.map (· ++ [10])
  | [], _ => lns_nil
  | u :: l, h => by
    have e : joinL 10 (u :: l) = u ++ 10 :: joinL 10 l := by simp [joinL]
    obtain ⟨h1, h2⟩ := ln_at (r := joinL 10 l) (h u List.mem_cons_self)
    rw [e, lns_cons (by simp), h1, h2, lns_join fun v hv => h v (List.mem_cons_of_mem _ hv)]
    rfl
theorem prt_one {p : List UInt8} (hp : (32 : UInt8) ∉ p) : prt p = [p] := by
  unfold prt
  rw [pcsE_end]
  obtain ⟨h1, h2⟩ := pcs_pre (c := 32) (u := p) (x := []) hp p.length (Nat.le_refl _)
  rw [List.append_nil] at h1 h2
  rw [h1, h2]
  rfl
theorem prt_cons {p r : List UInt8} (hp : (32 : UInt8) ∉ p) : prt (p ++ 32 :: r) = p :: prt r := by
  unfold prt
  rw [pcsE_end, pcsE_end]
  obtain ⟨h1, h2⟩ := pcs_app (c := 32) (u := p) (r := r) hp r.length
  have el : (p ++ 32 :: r).length = p.length + 1 + r.length := by simp; omega
  rw [el, h1, h2, show p ++ 32 :: r = (p ++ [32]) ++ r by simp, show p.length + 1 + frm 32 r r.length = (p ++ [(32 : UInt8)]).length + frm 32 r r.length by simp, List.drop_length_add_append]
  rfl
theorem idx_none {c : UInt8} : ∀ {p : List UInt8}, c ∉ p → Lib.indexByte p c = -1
  | [], _ => rfl
  | b :: p, h => by
    have ih := idx_none (p := p) fun hm => h (List.mem_cons_of_mem _ hm)
    have hb : (b == c) = false := by
      rw [beq_eq_false_iff_ne]
      rintro rfl
      exact h List.mem_cons_self
    simp [Lib.indexByte, hb, ih]
theorem first_at {c : UInt8} : ∀ {l : List UInt8}, c ∈ l → ∃ p r, l = p ++ c :: r ∧ c ∉ p
  | b :: l, h => by
    by_cases hb : b = c
    · exact ⟨[], l, by rw [hb]; rfl, by simp⟩
    · rcases List.mem_cons.1 h with h | h
      · exact absurd h.symm hb
      · obtain ⟨p, r, h1, h2⟩ := first_at h
        refine ⟨b :: p, r, by rw [h1]; rfl, fun hm => ?_⟩
        rcases List.mem_cons.1 hm with hm | hm
        · exact hb hm.symm
        · exact h2 hm
theorem prt_len (l : List UInt8) : (prt l).length ≤ l.length + 1 := pcsE_len 32 l _
theorem prt_ne (l : List UInt8) : ∃ w0 r, prt l = w0 :: r := by
  have h := pcsE_end 32 l
  unfold prt
  rw [h]
  cases pcs 32 l l.length with
  | nil => exact ⟨_, _, rfl⟩
  | cons a b => exact ⟨a, _, rfl⟩
/-- Words with blanks between them. -/
def glue : List (List UInt8) → List UInt8
  | [] => []
  | [w] => w
  | w :: l => w ++ 32 :: glue l
theorem prt_glue : ∀ {l : List (List UInt8)}, l ≠ [] → (∀ w ∈ l, (32 : UInt8) ∉ w) → prt (glue l) = l
  | [w], _, h => prt_one (h w List.mem_cons_self)
  | w :: v :: l, _, h => by
    rw [show glue (w :: v :: l) = w ++ 32 :: glue (v :: l) from rfl, prt_cons (h w List.mem_cons_self), prt_glue (by simp) fun u hu => h u (List.mem_cons_of_mem _ hu)]
theorem glue_no {c : UInt8} (hc : c ≠ 32) : ∀ {l : List (List UInt8)}, (∀ w ∈ l, c ∉ w) → c ∉ glue l
  | [], _ => by simp [glue]
  | [w], h => h w List.mem_cons_self
  | w :: v :: l, h => by
    rw [show glue (w :: v :: l) = w ++ 32 :: glue (v :: l) from rfl]
    intro hm
    rcases List.mem_append.1 hm with hm | hm
    · exact h w List.mem_cons_self hm
    · rcases List.mem_cons.1 hm with hm | hm
      · exact hc hm
      · exact glue_no hc (fun u hu => h u (List.mem_cons_of_mem _ hu)) hm
end Go.Proofs.YtkikceoccmoanaaGreatDoor
namespace Go.Proofs.YtkikceoccmoanaaGreatDoor
open Go.RowKit
set_option linter.unusedSimpArgs false
set_option linter.unusedVariables false

section
variable {c : Cx} {s : S} {Q : Exit → S → Prop} {L : List Oper} {n : Nat} {l l' : Array Bool} {i j k : Nat} {o : Oper}
def AN (c : Cx) (ops : Array Oper) (Q : Exit → S → Prop) (n : Nat) (l : Array Bool) (s : S) : Prop := closedL .any ops l → ∀ g a w, Sim c g s a w → anyN c.P .any ops (QQ c Q) (fun _ => True) (fun _ => true) n l a w
theorem AN.rp {v : V} (hi : L[i]? = some o) (hg : o.guard = none) (hd : dok s o = true) (hp : noP Q) (hok : (Region.noSelect L.toArray && (Region.ready .any L.toArray l).contains i && Region.free .any L.toArray l i) = true) (hl : l.setIfInBounds i true = l') (h : RP c o s v) (hN : AN c L.toArray Q n l' (s.put o.dst v)) : AN c L.toArray Q (n + 1) l s := by
  intro hcl g a w hs
  simp only [Bool.and_eq_true] at hok
  obtain ⟨⟨h1, h2⟩, h3⟩ := hok
  obtain ⟨x, h4, h5⟩ := h g a w hs
  have hr : i ∈ Region.ready .any L.toArray l := by simpa using h2
  have hi' : L.toArray[i]? = some o := by simpa using hi
  subst hl
  exact anyN_early (N := 0) (oi := o) (fun j hj hlt => .inl rfl) hi' (Region.noSelect_spec h1) (QQ_noP hp _ _) n l a w hcl (Region.free_spec hi' h3) hr (.inl ⟨by simp [Region.wanted, hg], fun w' _ => h5 w'⟩) trivial (hN (closed_set hcl hr) g _ w (hs.put o.dst (dok_spec hd) h4))
def BR (c : Cx) (L : List Oper) (Q : Exit → S → Prop) (n : Nat) (l : Array Bool) (s : S) (i : Nat) : Prop := ∃ o, L[i]? = some o ∧ o.guard = none ∧ ∀ g a w, Sim c g s a w → ∀ K : Act → World → Prop,
  (∀ g' s' a' w', AN c L.toArray Q n (l.setIfInBounds i true) s' → Sim c g' s' a' w' → K a' w') → o.wp c.P a w K (QQ c Q)
theorem BR.mk (hi : L[i]? = some o) (hg : o.guard = none) (hl : l.setIfInBounds i true = l') (h : Step c o s (AN c L.toArray Q n l')) : BR c L Q n l s i := ⟨o, hi, hg, fun g a w hs K hK => h g a w hs K _ (by rw [hl] at hK; exact hK)⟩
theorem AN.br {rs : List Nat} (hr : Region.ready .any L.toArray l = rs) (hne : rs ≠ []) (h : ∀ i ∈ rs, BR c L Q n l s i) : AN c L.toArray Q (n + 1) l s := by
  intro hcl g a w hs
  refine ⟨fun h0 => absurd (hr.symm.trans h0) hne, fun j hj => ?_⟩
  obtain ⟨o, hi, hg, hst⟩ := h j (hr ▸ hj)
  exact wpOp_of (by simpa using hi) hg (hst g a w hs _ fun g' s' a' w' hn hs' => ⟨fun _ => trivial, hn (closed_set hcl hj) g' a' w' hs'⟩)
theorem AN.br1 (hr : Region.ready .any L.toArray l = [i]) (h : BR c L Q n l s i) : AN c L.toArray Q (n + 1) l s := AN.br hr (by simp) fun x hx => by
  obtain rfl := List.mem_singleton.1 hx
  exact h
theorem AN.br2 (hr : Region.ready .any L.toArray l = [i, j]) (h : BR c L Q n l s i) (h2 : BR c L Q n l s j) : AN c L.toArray Q (n + 1) l s := AN.br hr (by simp) fun x hx => by
  simp only [List.mem_cons, List.not_mem_nil, or_false] at hx
  rcases hx with rfl | rfl
  · exact h
  · exact h2
theorem AN.nil (hr : Region.ready .any L.toArray l = []) (h : Q .normal s) : AN c L.toArray Q 0 l s := fun hcl g a w hs => ⟨hr, g, s, h, hs⟩
theorem AN.less {s' : S} (h : AN c L.toArray Q n l s') (hl : Less s' s) : AN c L.toArray Q n l s := fun hcl g a w hs => h hcl g a w (hs.less hl)
theorem ST.rd {N : S → Prop} {v : V} (hd : dok s o = true) (h : RD c o s v) (hN : N (s.put o.dst v)) : Step c o s N := by
  intro g a w hs K Q hK
  obtain ⟨x, h1, h2⟩ := h g a w hs
  unfold Oper.wp
  rw [h2 w (Below.refl _ _)]
  exact hK g _ _ _ hN (hs.put o.dst (dok_spec hd) h1)
theorem ST.rp {N : S → Prop} {v : V} (hd : dok s o = true) (h : RP c o s v) (hN : N (s.put o.dst v)) : Step c o s N := ST.rd hd h.rd hN
theorem ST.st {N : S → Prop} {X : S} (h : Step c o s (fun s' => s' = X)) (hN : N X) : Step c o s N := fun g a w hs K Q hK => h g a w hs K Q fun g' s' a' w' h1 h2 => hK g' s' a' w' (by rw [h1]; exact hN) h2
theorem ST.sm {N : S → Prop} {X : S} (h : StepM c o s (fun s' => s' = X)) (hN : N X) : Step c o s N := ST.st h.step hN
theorem ST.call {N : S → Prop} {post : V → Prop} (h : StepM c o s (fun s' => ∃ v, post v ∧ v.pure ∧ s' = s.put o.dst v)) (hN : ∀ v, post v → v.pure → N (s.put o.dst v)) : Step c o s N := fun g a w hs K Q hK => h.step g a w hs K Q fun g' s' a' w' ⟨v, h1, h2, h3⟩ h4 => hK g' s' a' w' (by rw [h3]; exact hN v h1 h2) h4
theorem ST.pc {N : S → Prop} {P : Program} {f : FuncId} {args : List V} {H : List (Nat × Row)} {K : List V} {post : V → List (Nat × Row) → List V → Prop} {fx : Operand} {xs : Array Operand} {tys : Array TypeId} (l : List Nat) {ts : List V} (h : PC P f args H K post) (hg : o.guard = none) (hP : c.P = P) (ho : o.op = .call { callee := .value fx, args := xs, argTypes := tys }) (hfx : s.ev fx = some (.fn f [])) (hargs : xs.toList.map s.ev = args.map some)
    (hts : l.map (fun i => fnd s.T i) = ts.map some) (hH : s.H = H) (hK : ts ++ s.K = K) (hd : dok s o = true) (hN : ∀ v H' K', post v H' K' → N (back s l o.dst v H' K')) : Step c o s N :=
  fun g a w hs K' Q' hK' => h c s o fx xs tys l ts hP ho hfx hargs hts hH hK hd g a w hs K' Q' fun g' s' a' w' ⟨v, H', K2, h1, h2⟩ h3 => hK' g' s' a' w' (by rw [h2]; exact hN _ _ _ h1) h3
theorem AW.drawT {id : Nat} {N : S} (n : Nat) (hm : c.P.follows .mixedOrders = true) (hlen : L.length = n) (hl : Array.replicate n false = l) (h : AN c L.toArray (QJ N) n l s) (hN : Q .normal N) : AW c (.region id L.toArray true) Q s := by
  intro g a w hs
  refine wp_mono (Q := QQ c (QJ N)) ?_ (fun e a w hq => by
    obtain ⟨g', s', h3, h4⟩ := hq
    cases e <;> first | exact ⟨g', N, hN, h4.less h3⟩ | exact h3.elim)
  refine wp_region_any hm ?_
  have hs' : Sim c g s a w.drew := hs.move (Below.drew (Below.refl _ _))
  subst hl hlen
  have h1 := any_of_anyN _ _ _ _ (h (by
    intro j oj _ hl
    rw [Array.getD_eq_getD_getElem?, Array.getElem?_replicate] at hl
    split at hl <;> simp at hl) g a _ hs')
  simpa using h1
end
end Go.Proofs.YtkikceoccmoanaaGreatDoor
namespace Go.Proofs.YtkikceoccmoanaaGreatDoor
open Go.RowKit
set_option linter.unusedSimpArgs false
set_option linter.unusedVariables false
set_option maxRecDepth 100000

def decS (n : Nat) : ByteArray := ⟨(Lib.decDigits n).toArray⟩
theorem decS_small {n : Nat} (h : n < 10) : baN [48 + n] = decS n := by
 unfold decS baN
 rw [Lib.decDigits_one h]
 rfl
theorem decS_big {n : Nat} (h : ¬ n < 10) : decS (n / 10) ++ baN [48 + n % 10] = decS n := by
 have h1 : baN [48 + n % 10] = ⟨[UInt8.ofNat (48 + n % 10)].toArray⟩ := rfl
 rw [h1]
 unfold decS
 rw [ByteArray.mk_append_mk]
 conv => rhs; rw [Lib.decDigits, dif_neg h]
theorem decS_size (n : Nat) : (decS n).size ≤ n + 1 := by
 induction n using Nat.strongRecOn with
 | _ n ih =>
  by_cases h : n < 10
  ·rw [← decS_small h]
   have : (baN [48 + n]).size = 1 := rfl
   omega
  ·have := ih (n / 10) (by omega)
   rw [← decS_big h, ByteArray.size_append]
   have : (baN [48 + n % 10]).size = 1 := rfl
   omega
end Go.Proofs.YtkikceoccmoanaaGreatDoor
namespace Go.Proofs.YtkikceoccmoanaaGreatDoor
open Go.Shelf Go.RowKit Go.Sort Go.Lib
def laysM171_ren : Go.Shelf.Ren := ⟨fun | 171 => 21 | 243 => 40 | 246 => 61 | 283 => 77 | 284 => 78 | 285 => 79 | 286 => 80 | 129 => 93 | 317 => 92 | 318 => 94 | 319 => 95 | 320 => 96 | 337 => 102 | 338 => 103 | n => n, fun | 3 => 3 | 9 => 9 | 2 => 2 | 4 => 4 | 171 => 106 | 0 => 0 | 53 => 107 | 37 => 55 | 5 => 5 | 173 => 110 | 212 => 124 | 51 => 125 | 20 => 20 | 213 => 126 | 46 => 115 | 232 => 141 | 233 => 142 | n => n, fun | 17 => 3 | 18 => 6 | 19 => 7 | n => n⟩
theorem laysM171 : Go.Proofs.LaysM.n171 Tryz.prog laysM171_ren := {
  mixed := by kernel_rfl
  f129 := Tryz.func93.trans (congrArg some (by kernel_rfl))
  f171 := Tryz.func21.trans (congrArg some (by kernel_rfl))
  f243 := Tryz.func40.trans (congrArg some (by kernel_rfl))
  f246 := Tryz.func61.trans (congrArg some (by kernel_rfl))
  f283 := Tryz.func77.trans (congrArg some (by kernel_rfl))
  f284 := Tryz.func78.trans (congrArg some (by kernel_rfl))
  f285 := Tryz.func79.trans (congrArg some (by kernel_rfl))
  f286 := Tryz.func80.trans (congrArg some (by kernel_rfl))
  f317 := Tryz.func92.trans (congrArg some (by kernel_rfl))
  f318 := Tryz.func94.trans (congrArg some (by kernel_rfl))
  f319 := Tryz.func95.trans (congrArg some (by kernel_rfl))
  f320 := Tryz.func96.trans (congrArg some (by kernel_rfl))
  f337 := Tryz.func102.trans (congrArg some (by kernel_rfl))
  f338 := Tryz.func103.trans (congrArg some (by kernel_rfl))
  t0 := Tryz.underlying0
  a0 := Tryz.isAgg0
  z0 := Tryz.sizeOf0
  v0 := Tryz.zeroValue0
  t2 := Tryz.underlying2
  a2 := Tryz.isAgg2
  z2 := Tryz.sizeOf2
  v2 := Tryz.zeroValue2
  t3 := Tryz.underlying3
  a3 := Tryz.isAgg3
  z3 := Tryz.sizeOf3
  v3 := Tryz.zeroValue3
  t4 := Tryz.underlying4
  a4 := Tryz.isAgg4
  z4 := Tryz.sizeOf4
  v4 := Tryz.zeroValue4
  t5 := Tryz.underlying5
  a5 := Tryz.isAgg5
  z5 := Tryz.sizeOf5
  v5 := Tryz.zeroValue5
  t9 := Tryz.underlying9
  a9 := Tryz.isAgg9
  z9 := Tryz.sizeOf9
  v9 := Tryz.zeroValue9
  t20 := Tryz.underlying20
  a20 := Tryz.isAgg20
  z20 := Tryz.sizeOf20
  v20 := Tryz.zeroValue20
  t37 := Tryz.underlying55
  a37 := Tryz.isAgg55
  z37 := Tryz.sizeOf55
  v37 := Tryz.zeroValue55
  t46 := Tryz.underlying115
  a46 := Tryz.isAgg115
  z46 := Tryz.sizeOf115
  v46 := Tryz.zeroValue115
  t51 := Tryz.underlying125
  a51 := Tryz.isAgg125
  z51 := Tryz.sizeOf125
  v51 := Tryz.zeroValue125
  t53 := Tryz.underlying107
  a53 := Tryz.isAgg107
  z53 := Tryz.sizeOf107
  v53 := Tryz.zeroValue107
  t171 := Tryz.underlying106
  a171 := Tryz.isAgg106
  z171 := Tryz.sizeOf106
  v171 := Tryz.zeroValue106
  t173 := Tryz.underlying110
  a173 := Tryz.isAgg110
  z173 := Tryz.sizeOf110
  v173 := Tryz.zeroValue110
  t212 := Tryz.underlying124
  a212 := Tryz.isAgg124
  z212 := Tryz.sizeOf124
  v212 := Tryz.zeroValue124
  t213 := Tryz.underlying126
  a213 := Tryz.isAgg126
  z213 := Tryz.sizeOf126
  t232 := Tryz.underlying141
  a232 := Tryz.isAgg141
  z232 := Tryz.sizeOf141
  v232 := Tryz.zeroValue141
  t233 := Tryz.underlying142
  a233 := Tryz.isAgg142
  z233 := Tryz.sizeOf142
  v233 := Tryz.zeroValue142
  g17 := by kernel_rfl
  g18 := by kernel_rfl
  g19 := by kernel_rfl
  i0 := by kernel_rfl
  i2 := by kernel_rfl
  i3 := by kernel_rfl
  i4 := by kernel_rfl
  i5 := by kernel_rfl
  i9 := by kernel_rfl
  i20 := by kernel_rfl
  i37 := by kernel_rfl
  i46 := by kernel_rfl
  i51 := by kernel_rfl
  i53 := by kernel_rfl
  i171 := by kernel_rfl
  i173 := by kernel_rfl
  i212 := by kernel_rfl
  i232 := by kernel_rfl
  i233 := by kernel_rfl
  m17 := by kernel_rfl
  m18 := by kernel_rfl
  m19 := by kernel_rfl }
theorem itoa_call (n : Int) (h0 : -9223372036854775808 ≤ n) (h1 : n ≤ 9223372036854775807) (w : World) (htab : Lib.TabIs Tryz.prog w "internal/strconv.uint64pow10" .u64 Lib.pow10Tab) :
    Calls Tryz.prog 21 #[.int .i64 n] w fun e w' => e = .returned (.string ⟨(Lib.itoa n).toArray⟩) ∧ ∃ k os, w' = grow (w.drewN k) os := Any.strconv_Itoa laysM171 n h0 h1 w htab
end Go.Proofs.YtkikceoccmoanaaGreatDoor
namespace Go.Proofs.YtkikceoccmoanaaGreatDoor
open Go.RowKit
set_option linter.unusedSimpArgs false
set_option linter.unusedVariables false

/-- As Fn, in the worlds of which Pre holds. -/
def FnP (Pre : World → Prop) (P : Program) (f : FuncId) (args : List V) (post : V → Prop) : Prop := ∀ (w : World) (out : Nat → Prop) (g : Nat → Nat × Nat) (xs : List Value), Pre w → (∀ b, out b → b < w.heap.size) → VReps w (fun b => ¬ out b) g args xs →
  Calls P f xs.toArray w fun e w' => ∃ v x, e = .returned x ∧ post v ∧ v.pure ∧ VRep w' (fun b => ¬ out b) g v x ∧ Below w.heap.size w w'
def Kept (Pre : World → Prop) : Prop := ∀ w w' : World, Below w.heap.size w w' → Pre w → Pre w'
theorem FnP.ofCalls {Pre : World → Prop} {P : Program} {f : FuncId} {xs : List Value} {y : Value} {args : List V} {v : V} (h : ∀ w, Pre w → Calls P f xs.toArray w fun e w' => e = .returned y ∧ Below w.heap.size w w') (ha : ∀ w q g zs, VReps w q g args zs → zs = xs) (hv : ∀ w q g, VRep w q g v y) (hp : v.pure) : FnP Pre P f args (fun v' => v' = v) := by
  intro w out g zs hw ho hz
  obtain rfl := ha _ _ _ _ hz
  refine (h w hw).mono ?_
  rintro e w' ⟨rfl, hb⟩
  exact ⟨v, y, rfl, rfl, hp, hv _ _ _, hb⟩
theorem FnP.intro {Pre : World → Prop} {P : Program} {f : FuncId} {fn : Func} {code : Code} {n : Nat} {rs : List ResultVar} {args : List V} {post : V → Prop} (hf : Is P f fn code n rs) (hp : ∀ v ∈ args, v.pure) (hn : args.length ≤ n)
    (h : ∀ w0 out, Pre w0 → AW ⟨P, w0, out, [], []⟩ code (QF P rs post) ⟨n, enum 0 args, [], []⟩) : FnP Pre P f args post := by
  intro w out g xs hw hout hx
  refine calls_of_wp hf.func hf.body ?_
  have hs : Sim ⟨P, w, out, [], []⟩ g ⟨n, enum 0 args, [], []⟩ { tmps := xs.toArray ++ Array.replicate (fn.ntmps - xs.toArray.size) undef, defers := [] } w := by
    refine ⟨?_, rfl, ?_, by simp [fnd], by simp [fnd], by simp, by simp [fnd], by simp [fnd], hout, Below.refl _ _⟩
    · simp [hf.ntmps, ← hx.1]; omega
    · intro i v hv
      obtain ⟨_, h2⟩ := fnd_enum args 0 i v hv
      simp only [Nat.sub_zero] at h2
      have hi : i < xs.length := by rw [← hx.1]; exact (List.getElem?_eq_some_iff.1 h2).1
      refine ⟨xs[i], ?_, ?_⟩
      · rw [hf.ntmps]
        exact enter_get (List.getElem?_eq_getElem hi) (by rw [← hx.1]; exact hn)
      · refine (hx.2 i v _ h2 (List.getElem?_eq_getElem hi)).mono Cells.rfl (fun b hb _ => ⟨hb, by simp [fnd]⟩) (fun r _ => rfl)
  refine wp_mono (h w out hw g _ w hs) fun e a' w' hq => ?_
  obtain ⟨g', s', h1, h2⟩ := hq
  have fin : (∃ vs, resL P s' rs vs ∧ post (tupOf vs) ∧ (tupOf vs).pure) → a'.defers = [] ∧ ∃ v, (results fn a'.tmps).run P w' = .ok v w' ∧ ∃ v_1 x, Ending.returned v = .returned x ∧ post v_1 ∧ v_1.pure ∧ VRep w' (fun b => ¬ out b) g v_1 x ∧ Below w.heap.size w w' := by
    rintro ⟨vs, k1, k2, k3⟩
    obtain ⟨x, k4, k5⟩ := run_results (c := ⟨P, w, out, [], []⟩) hf.results h2 k1
    exact ⟨h2.defers, x, k5, _, x, rfl, k2, k3, (k4.repure k3).mono Cells.rfl (fun b hb _ => hb.1) (fun r _ => rfl), h2.below⟩
  cases e with
  | normal => exact fin h1
  | ret => exact fin h1
  | _ => exact h1.elim
section
variable {c : Cx} {s : S} {o : Oper}
theorem sm_callP {Pre : World → Prop} {fx : Operand} {xs : Array Operand} {ts : Array TypeId} {f : FuncId} {fn : Func} {code : Code} {n : Nat} {rs : List ResultVar} {args : List V} {post : V → Prop} (hk : Kept Pre) (h0 : Pre c.w0) (hfn : FnP Pre c.P f args post) (hf : Is c.P f fn code n rs) (ho : o.op = .call { callee := .value fx, args := xs, argTypes := ts })
    (hfx : s.ev fx = some (.fn f [])) (hargs : xs.toList.map s.ev = args.map some) (hd : dok s o = true) : StepM c o s (fun s' => ∃ v, post v ∧ v.pure ∧ s' = s.put o.dst v) := by
  intro g a w hs K Q hK
  have hfx' : a.eval fx = .func (.func f) #[] ([] : List Value).toArray := by
    have h := hs.ev hfx
    generalize a.eval fx = u at h
    cases h with
    | fn _ _ cs hl _ =>
      obtain rfl : cs = [] := by cases cs with | nil => rfl | cons => simp at hl
      rfl
  have hx : VReps w (fun b => ¬ ¬ qt c s.H g b) g args (xs.toList.map a.eval) := by
    refine ⟨by simpa using (congrArg List.length hargs).symm, fun j u y hu hy => ?_⟩
    have h1 := congrArg (fun l => l[j]?) hargs
    simp only [List.getElem?_map, hu, Option.map_some] at h1 hy
    cases h2 : xs.toList[j]? with
    | none => rw [h2] at h1; cases h1
    | some p =>
      rw [h2] at h1 hy
      simp only [Option.map_some, Option.some.injEq] at h1 hy
      subst hy
      exact (hs.ev h1).mono Cells.rfl (fun b hb _ => not_not_intro hb) (fun r _ => rfl)
  unfold Oper.wp
  rw [exec_call (caps := []) hf ho hfx']
  simp only [Oper.upon, List.append_nil]
  refine (hfn w (fun b => ¬ qt c s.H g b) g _ (hk _ _ hs.below h0) ?_ hx).mono ?_
  · intro b hb
    rcases Classical.em (c.out b) with h | h
    · exact Nat.lt_of_lt_of_le (hs.low b h) hs.below.size
    · rcases Classical.em (∃ r row, fnd s.H r = some row ∧ row.nil = false ∧ (g r).1 = b) with ⟨r, row, h1, h2, rfl⟩ | h'
      · obtain ⟨arr, h3, _⟩ := hs.obj r row h1 h2
        exact (Array.getElem?_eq_some_iff.1 h3).1
      · exact absurd ⟨h, fun r row h1 h2 h3 => h' ⟨r, row, h1, h2, h3⟩⟩ hb
  · rintro e w' ⟨v, x, rfl, h1, h2, h3, h4⟩
    refine hK g _ _ _ ⟨v, h1, h2, rfl⟩ ((hs.move h4).put o.dst (dok_spec hd) ?_) h4
    exact h3.mono Cells.rfl (fun b hb _ => Classical.not_not.1 hb) (fun r _ => rfl)
end
theorem tab_kept (P : Program) (name : String) (k : IntKind) (zs : List Int) : Kept (fun w => Lib.TabIs P w name k zs) := by
  intro w w' hb h
  unfold Lib.TabIs World.var? at h ⊢
  cases hg : P.globalNamed name with
  | none => rw [hg] at h; simp at h
  | some g =>
    rw [hg] at h
    simp only [Option.bind_some] at h ⊢
    cases ho : w.heap[g]? with
    | none => rw [ho] at h; simp at h
    | some ob => rw [hb.block g (Array.getElem?_eq_some_iff.1 ho).1]; exact h
end Go.Proofs.YtkikceoccmoanaaGreatDoor
namespace Go.Proofs.YtkikceoccmoanaaGreatDoor
open Go.RowKit
open Go.Sort (grow)
set_option linter.unusedSimpArgs false
set_option linter.unusedVariables false
set_option maxRecDepth 100000

theorem grow_below (w : World) (k : Nat) (os : Array Obj) : Below w.heap.size w (grow (w.drewN k) os) :=
  ⟨rfl, rfl, rfl, by simp [grow, World.drewN], fun k hk => by simp [grow, World.drewN, Array.getElem?_append_left hk]⟩
def preT : World → Prop := fun w => Lib.TabIs Tryz.prog w "internal/strconv.uint64pow10" .u64 Lib.pow10Tab
theorem am_Itoa (n : Nat) (h : n ≤ 1000000001) : FnP preT Tryz.prog 21 [.i (n : Int)] (fun v => v = .s (decS n)) :=
  FnP.ofCalls (xs := [.int .i64 (n : Int)]) (y := .string (decS n)) (fun w hw => (itoa_call (n : Int) (by omega) (by omega) w hw).mono fun e w' ⟨he, k, os, hw'⟩ => ⟨by
    rw [he]
    have : (⟨(Lib.itoa (n : Int)).toArray⟩ : ByteArray) = decS n := by unfold Lib.itoa decS; rw [if_neg (by omega)]; simp only [Int.toNat_natCast]
    rw [this], by rw [hw']; exact grow_below _ _ _⟩) (fun _ _ _ zs h => by
    obtain ⟨h1, h2⟩ := h
    match zs, h1, h2 with
    | [z], _, h2 => rw [VRep.p_eq (h2 0 _ z rfl rfl)]) (fun _ _ _ => .d _ _ (.p _)) (by simp [V.pure, V.has, V.hasL])
end Go.Proofs.YtkikceoccmoanaaGreatDoor
namespace Go.Proofs.YtkikceoccmoanaaGreatDoor
open Go.RowKit
open Go.Sort (grow)
set_option linter.unusedSimpArgs false
set_option linter.unusedVariables false
set_option maxRecDepth 100000

def shOk (x : Int) : Prop := 0 ≤ x ∧ x ≤ 1000000001
instance (x : Int) : Decidable (shOk x) := by unfold shOk; infer_instance
def shS (x : Int) : ByteArray := if shOk x then (if x = 1000000001 then ⟨#[105, 110, 102]⟩ else decS x.toNat) else ⟨#[]⟩
def shE (x : Int) : Int := if shOk x then 0 else 2
theorem may_Show (x : Int) (w : World) : Calls Tryz.prog 44 #[.int .i64 x] w fun e w' => e = .returned (.bool (decide (0 ≤ x ∧ x ≤ 1000000001))) ∧ w = w' := by
  go_enter Tryz.func44, Tryz.ntmps44
  go_wp2
  all_goals
    go_ret
    refine ⟨ret1b ?_, rfl⟩
    rw [Bool.eq_iff_iff]
    simp
    omega
theorem weight_Show (x : Int) (w : World) (htab : Lib.TabIs Tryz.prog w "internal/strconv.uint64pow10" .u64 Lib.pow10Tab) : Calls Tryz.prog 23 #[.int .i64 x] w fun e w' => e = .returned (.tuple #[.string (shS x), .int .i64 (shE x)]) ∧ Below w.heap.size w w' := by
  by_cases hx : shOk x
  · have hx2 : 0 ≤ x ∧ x ≤ 1000000001 := hx
    have hi : (⟨(Lib.itoa x).toArray⟩ : ByteArray) = decS x.toNat := by unfold Lib.itoa decS; rw [if_neg (by omega)]
    have h2 : shE x = 0 := by unfold shE; rw [if_pos hx]
    by_cases hi2 : x = 1000000001
    · have h1 : shS x = ⟨#[105, 110, 102]⟩ := by unfold shS; rw [if_pos hx, if_pos hi2]
      rw [h1, h2]
      go_enter Tryz.func23, Tryz.ntmps23
      go_wp2_with (first | (go_at_call 44; refine (may_Show _ _).mono ?_; rintro e w' ⟨rfl, rfl⟩) | (go_at_call 21; refine (itoa_call _ (by omega) (by omega) _ htab).mono ?_; rintro e w' ⟨rfl, k, os, rfl⟩))
      all_goals go_ret2
      all_goals go_tidy
      all_goals first | exact ⟨rfl, Below.refl _ _⟩ | (exfalso; simp_all; done) | (exfalso; simp_all; omega)
    · have h1 : shS x = decS x.toNat := by unfold shS; rw [if_pos hx, if_neg hi2]
      rw [h1, h2]
      go_enter Tryz.func23, Tryz.ntmps23
      go_wp2_with (first | (go_at_call 44; refine (may_Show _ _).mono ?_; rintro e w' ⟨rfl, rfl⟩) | (go_at_call 21; refine (itoa_call _ (by omega) (by omega) _ htab).mono ?_; rintro e w' ⟨rfl, k, os, rfl⟩))
      all_goals go_ret2
      all_goals go_tidy
      all_goals first | exact ⟨rfl, grow_below _ _ _⟩ | (exfalso; simp_all; done) | (exfalso; simp_all; omega)
  · have hx2 : ¬ (0 ≤ x ∧ x ≤ 1000000001) := hx
    have h1 : shS x = ⟨#[]⟩ := by unfold shS; rw [if_neg hx]
    have h2 : shE x = 2 := by unfold shE; rw [if_neg hx]
    rw [h1, h2]
    go_enter Tryz.func23, Tryz.ntmps23
    go_wp2_with (go_at_call 44; refine (may_Show _ _).mono ?_; rintro e w' ⟨rfl, rfl⟩)
    all_goals go_ret2
    all_goals go_tidy
    all_goals first | exact ⟨rfl, Below.refl _ _⟩ | (exfalso; simp_all; done) | (exfalso; simp_all; omega)
end Go.Proofs.YtkikceoccmoanaaGreatDoor
