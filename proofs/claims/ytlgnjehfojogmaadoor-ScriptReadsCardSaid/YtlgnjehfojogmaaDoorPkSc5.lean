/- Part 5 of what the law ScriptReads rests on. -/
import Derived.Laws.DeepStrings4
import Derived.Lib.Atoi
import Derived.Laws.RangeString
import Derived.Laws.RangeAny
import Derived.LoopTactic
import Derived.Lib.ItoaNum
import Derived.Shelf.Strconv.Itoa3
import Derived.Test.YtlgnjehfojogmaaDoorProg
import Derived.Shelf.Strings.OnBuilder
import Derived.RowKit
import Derived.Lib.Builder
import Derived.Laws.Externs
import Derived.Lib.AppendStr
import Derived.Lib.UnsafeStr
import Derived.Defers
import Derived.Laws.Pointers
import Derived.Laws.LoneSync
import Derived.RegionTactic
import Derived.RegionCalls
import Derived.ChangeAlike
import Derived.Lib.AtoiTie
import Derived.Shelf.Strings.Split
import Derived.Test.YtlgnjehfojogmaaDoorPkSc1
import Derived.Test.YtlgnjehfojogmaaDoorPkSc2
import Derived.Test.YtlgnjehfojogmaaDoorPkSc3
import Derived.Test.YtlgnjehfojogmaaDoorPkSc4
namespace Go.Proofs.YtlgnjehfojogmaaDoor
open Go.RowKit
set_option linter.unusedSimpArgs false
set_option linter.unusedVariables false
set_option maxRecDepth 100000

/-- Where the piece begins that is open at i, pieces being parted by c; the pieces before it. -/
def frm (c : UInt8) (t : List UInt8) : Nat → Nat
 | 0 => 0
 | i + 1 => if t[i]? = some c then i + 1 else frm c t i
def pcs (c : UInt8) (t : List UInt8) : Nat → List (List UInt8)
 | 0 => []
 | i + 1 => if t[i]? = some c then pcs c t i ++ [(t.take i).drop (frm c t i)] else pcs c t i
theorem frm_le (c : UInt8) (t : List UInt8) : ∀ i, frm c t i ≤ i
 | 0 => Nat.le_refl 0
 | i + 1 => by
  unfold frm
  have := frm_le c t i
  split <;> omega
theorem pcs_len (c : UInt8) (t : List UInt8) : ∀ i, (pcs c t i).length ≤ i
 | 0 => Nat.le_refl 0
 | i + 1 => by
  unfold pcs
  have := pcs_len c t i
  split
  ·simp; omega
  ·omega
def strsD (l : List (List UInt8)) : D := .sl 1 16 (l.map fun b => [.p (.string (bs b))])
def strsC (l : List (List UInt8)) : List V := l.map fun b => .s (bs b)
@[simp] theorem hasL_strsC (r : Nat) (l : List (List UInt8)) : V.hasL r (strsC l) = false := V.hasL_false.2 fun d hd => by
 obtain ⟨x, _, rfl⟩ := List.mem_map.1 hd
 rfl
@[simp] theorem strsC_len (l : List (List UInt8)) : (strsC l).length = l.length := by simp [strsC]
section
variable {c : Cx} {s : S} {o : Oper}
theorem bs_sub (l : List UInt8) (i j : Nat) (h : j ≤ l.length) : (bs l).extract i j = bs ((l.take j).drop i) := bs_ext (by rw [Lib.extract_data, bs_list, bs_list, List.drop_take])
theorem rp_slice_strb {t : TypeId} {x y z : Operand} {l : List UInt8} {i j : Nat} {m n : Int} (hu : c.P.underlying t = some .string) (ho : o.op = .slice t x (some y) (some z) none) (hx : s.ev x = some (.s (bs l))) (hy : s.ev y = some (.i m)) (hz : s.ev z = some (.i n)) (hi : m = (i : Int)) (hj : n = (j : Int)) (h1 : i ≤ j) (h2 : j ≤ l.length) : RP c o s (.s (bs ((l.take j).drop i))) := fun g a w hs => by
 refine ⟨.string (bs ((l.take j).drop i)), .d _ _ (.p _), fun w' => ?_⟩
 subst hi hj
 have hr := run_slice_string_if (P := c.P) w' t (bs l) .i64 .i64 (i : Int) (j : Int) hu
 rw [if_pos ⟨by omega, by rw [bs_size]; omega⟩, if_pos ⟨by omega, by omega⟩, Int.toNat_natCast, Int.toNat_natCast, bs_sub l i j h2] at hr
 simp only [execOp, ho, VRep.p_eq (hs.ev hx), VRep.p_eq (hs.ev hy), VRep.p_eq (hs.ev hz), Option.map_some, Option.map_none, Sem.run_bind, run_sliceAt_string _ t _ _ _ _ hu, hr, Result.andThen_ok]
 rfl
end
set_option maxHeartbeats 1000000 in
theorem am_RLines (t : List UInt8) (ht : t.length ≤ 20000) : Fn Tryd.prog 21 [.s (bs t)] (fun v => v = .tup [.d (strsD (pcs 10 t t.length)), .b (decide (frm 10 t t.length = t.length))]) := by
 obtain ⟨n, hn⟩ : ∃ n, t.length = n := ⟨_, rfl⟩
 have hsz : (bs t).size = n := by rw [bs_size]; exact hn
 rw [hn] at ht ⊢
 refine Fn.intro (n := 31) ⟨Tryd.func21, rfl, rfl, rfl, rfl⟩ (by simp [V.pure, V.has, V.hasL]) (by simp) fun w0 out => ?_
 refine AW.seq ?_
 refine AW.region ?_
 refine AL.rp rfl rfl (rp_assign rfl rfl) ?_
 refine AL.rp rfl rfl (rp_assign rfl rfl) ?_
 refine AL.nil ?_
 try simp only [thenS, S.put, enum, List.nil_append, List.cons_append, List.append_nil, Nat.zero_add, Nat.reduceAdd]
 refine AW.seq ?_
 refine AW.region ?_
 refine AL.rp rfl rfl (rp_assign rfl rfl) ?_
 refine AL.nil ?_
 try simp only [thenS, S.put]
 refine AW.seq ?_
 refine AW.region ?_
 refine AL.rp rfl rfl (rp_assign rfl rfl) ?_
 refine AL.nil ?_
 try simp only [thenS, S.put]
 refine AW.seq ?_
 refine AW.seq ?_
 refine AW.region ?_
 refine AL.rp rfl rfl (rp_assign rfl rfl) ?_
 refine AL.nil ?_
 try simp only [thenS, S.put]
 refine AW.block ?_
 refine AW.adopt 4 30 1 9 rfl (by simp [S.clean, V.has, V.hasL]) ?_
 refine AW.loop (fun s' => ∃ (i : Nat) (z : Bool), i ≤ n ∧ (z = (pcs 10 t i).isEmpty) ∧ s' = ⟨31, [(0, .s (bs t)), (4, .own 30 1 (pcs 10 t i).length z), (5, .i (frm 10 t i)), (6, .i i)], [(30, ⟨9, strsC (pcs 10 t i), z, 1⟩)], []⟩) (fun s' => n - s'.nat 6) ⟨_, ?_, 0, true, by omega, rfl, rfl⟩ ?_
 ·exact (Less.of rfl (by repeat (first | exact trivial | refine ⟨⟨_, rfl, Wk.refl _⟩, ?_⟩ | refine ⟨⟨_, rfl, Wk.nil _ _⟩, ?_⟩ | refine ⟨⟨_, rfl, Wk.junk _⟩, ?_⟩)) (by repeat (first | exact trivial | refine ⟨rfl, ?_⟩)) rfl)
 rintro s' ⟨i, z, hi, hz, rfl⟩
 have hf := frm_le 10 t i
 have hp := pcs_len 10 t i
 by_cases hlt : i < n
 ·obtain ⟨b, hb⟩ := get_lt hn hlt
  have hb' : (bs t).data.toList[i]? = some b := hb
  by_cases h10 : b.toNat = 10
  ·have e : t[i]? = some 10 := by rw [hb]; congr 1; exact UInt8.toNat_inj.1 h10
   have e1 : frm 10 t (i + 1) = i + 1 := by show (if t[i]? = some 10 then i + 1 else _) = _; rw [if_pos e]
   have e2 : pcs 10 t (i + 1) = pcs 10 t i ++ [(t.take i).drop (frm 10 t i)] := by show (if t[i]? = some 10 then _ else _) = _; rw [if_pos e]
   have hpos : ((i : Nat) : Int) + 1 = ((i + 1 : Nat) : Int) := by omega
   refine AW.seq ?_
   refine AW.seq ?_
   refine AW.region ?_
   refine AL.rp rfl rfl (rp_move rfl rfl) ?_
   refine AL.rp rfl rfl (rp_move rfl rfl) ?_
   (first | (refine AL.rp rfl rfl (rp_len_map Tryd.underlying9 rfl rfl (by assumption)) ?_) | (refine AL.rp rfl rfl (rp_len_own Tryd.underlying9 rfl rfl) ?_) | (refine AL.rp rfl rfl (rp_len_sl Tryd.underlying9 rfl rfl) ?_) | (refine AL.rp rfl rfl (rp_len_nil Tryd.underlying9 rfl rfl) ?_) | (refine AL.rp rfl rfl (rp_len_str Tryd.underlying9 rfl rfl) ?_))
   (first | (refine AL.rp rfl rfl (rp_lssT rfl rfl rfl (by first | assumption | omega | (dsimp only; omega))) ?_) | (refine AL.rp rfl rfl (rp_lssF rfl rfl rfl (by first | assumption | omega | (dsimp only; omega))) ?_) | (refine AL.rp rfl rfl (rp_lss rfl rfl rfl) ?_))
   refine AL.nil ?_
   try simp only [thenS, S.put]
   refine AW.condT rfl ?_
   refine AW.skip ?_
   try simp only [thenS]
   refine AW.seq ?_
   refine AW.block ?_
   refine AW.seq ?_
   refine AW.region ?_
   refine AL.rp rfl rfl (rp_move rfl rfl) ?_
   refine AL.rp rfl rfl (rp_move rfl rfl) ?_
   refine AL.rp rfl rfl (rp_index_str Tryd.underlying9 rfl rfl rfl (by first | rfl | omega) (by assumption)) ?_
   (first | (refine AL.rp rfl rfl (rp_eqlT rfl rfl rfl (by first | assumption | omega | (dsimp only; omega))) ?_) | (refine AL.rp rfl rfl (rp_eqlF rfl rfl rfl (by first | assumption | omega | (dsimp only; omega))) ?_) | (refine AL.rp rfl rfl (rp_eql rfl rfl rfl) ?_))
   refine AL.nil ?_
   try simp only [thenS, S.put]
   refine AW.condT rfl ?_
   refine AW.seq ?_
   refine AW.region ?_
   refine AL.rp rfl rfl (rp_move rfl rfl) ?_
   refine AL.rp rfl rfl (rp_move rfl rfl) ?_
   refine AL.rp rfl rfl (rp_move rfl rfl) ?_
   refine AL.rp rfl rfl (rp_move rfl rfl) ?_
   refine AL.rp rfl rfl (rp_slice_strb Tryd.underlying9 rfl rfl rfl rfl rfl rfl (by omega) (by omega)) ?_
   refine AL.sm rfl (sm_slice (vs := [(0, _)]) (zs := [.d (.p (.string ⟨#[]⟩))]) 22 Tryd.underlying53 inf9 rfl rfl (by decide) (by decide) (by decide) rfl rfl rfl rfl (by first | rfl | simp [S.clean, S.put, S.newObj, S.forget, V.has, V.hasL, junkIf, setL, V.cs, hasL_i, hasL_d, hasL_b, hasL_s, hasL_n, hasL_rep, hasL_flat, hasL_append, -List.map_set]) (by first | rfl | simp [S.clean, S.put, S.newObj, S.forget, V.has, V.hasL, junkIf, setL, V.cs, hasL_i, hasL_d, hasL_b, hasL_s, hasL_n, hasL_rep, hasL_flat, hasL_append, -List.map_set]) rfl) ?_
   refine AL.st rfl (st_appendF Tryd.underlying53 inf9 rfl (by decide) rfl rfl rfl rfl rfl rfl (by first | assumption | rfl | (simp; done)) (by first | rfl | simp [S.clean, S.put, S.newObj, S.forget, V.has, V.hasL, junkIf, setL, V.cs, hasL_i, hasL_d, hasL_b, hasL_s, hasL_n, hasL_rep, hasL_flat, hasL_append, -List.map_set]) rfl rfl rfl rfl rfl (by first | rfl | simp [S.clean, S.put, S.newObj, S.forget, V.has, V.hasL, junkIf, setL, V.cs, hasL_i, hasL_d, hasL_b, hasL_s, hasL_n, hasL_rep, hasL_flat, hasL_append, -List.map_set]) rfl (by decide) (by omega) (by omega) rfl) ?_
   simp only [S.forget, S.put, S.newObj, junkIf, V.has, V.hasL, hasL_i, hasL_b, hasL_s, hasL_d, hasL_n, hasL_rep, hasL_flat, hasL_append, List.map_cons, List.map_nil, List.filter_cons, List.filter_nil, Nat.reduceBNe, Nat.reduceBEq, eq_self, bne_self_eq_false,  Bool.not_true, Bool.not_false, Bool.or_false, Bool.or_true, Bool.false_or, Bool.true_or, if_true, if_false, Bool.false_eq_true, ite_true, ite_false, ↓reduceIte, beq_self_eq_true, Nat.reduceEqDiff]
   refine AL.rp rfl rfl (rp_assign rfl rfl) ?_
   refine AL.nil ?_
   try simp only [thenS, S.put, S.newObj, setL, V.cs, List.length_cons, List.length_nil, List.take_succ_cons, List.take_zero, List.drop_succ_cons, List.drop_zero, List.drop_nil, List.nil_append, List.cons_append, List.append_nil, Nat.zero_add, Nat.reduceAdd, List.map_cons, List.map_nil, List.set_cons_zero, List.set_cons_succ]
   refine AW.region ?_
   refine AL.rp rfl rfl (rp_move rfl rfl) ?_
   refine AL.rp rfl rfl (rp_add rfl rfl rfl (by first | omega | (dsimp only; omega))) ?_
   refine AL.rp rfl rfl (rp_assign rfl rfl) ?_
   refine AL.nil ?_
   try simp only [thenS, S.put]
   refine AW.region ?_
   refine AL.rp rfl rfl (rp_move rfl rfl) ?_
   refine AL.rp rfl rfl (rp_add rfl rfl rfl (by first | omega | (dsimp only; omega))) ?_
   refine AL.rp rfl rfl (rp_assign rfl rfl) ?_
   refine AL.nil ?_
   try simp only [thenS, S.put]
   refine ⟨⟨31, [(0, .s (bs t)), (4, .own 30 1 ((pcs 10 t i).length + 1) false), (5, .i (i + 1 : Nat)), (6, .i (i + 1 : Nat))], [(30, ⟨9, strsC (pcs 10 t i) ++ [.s (bs ((t.take i).drop (frm 10 t i)))], false, 1⟩)], []⟩, (Less.of rfl (by repeat (first | exact trivial | refine ⟨⟨_, rfl, Wk.refl _⟩, ?_⟩ | refine ⟨⟨_, rfl, Wk.nil _ _⟩, ?_⟩ | refine ⟨⟨_, rfl, Wk.junk _⟩, ?_⟩)) (by repeat (first | exact trivial | refine ⟨rfl, ?_⟩)) rfl), ⟨i + 1, false, by omega, by rw [e2]; simp, ?_⟩, ?_⟩
   ·rw [e1, e2]
    simp [strsC]
   ·simp [S.nat, fnd]; omega
  ·have e : ¬ t[i]? = some 10 := by
    rw [hb]
    intro h
    cases h
    exact h10 rfl
   have e1 : frm 10 t (i + 1) = frm 10 t i := by show (if t[i]? = some 10 then i + 1 else _) = _; rw [if_neg e]
   have e2 : pcs 10 t (i + 1) = pcs 10 t i := by show (if t[i]? = some 10 then _ else _) = _; rw [if_neg e]
   refine AW.seq ?_
   refine AW.seq ?_
   refine AW.region ?_
   refine AL.rp rfl rfl (rp_move rfl rfl) ?_
   refine AL.rp rfl rfl (rp_move rfl rfl) ?_
   (first | (refine AL.rp rfl rfl (rp_len_map Tryd.underlying9 rfl rfl (by assumption)) ?_) | (refine AL.rp rfl rfl (rp_len_own Tryd.underlying9 rfl rfl) ?_) | (refine AL.rp rfl rfl (rp_len_sl Tryd.underlying9 rfl rfl) ?_) | (refine AL.rp rfl rfl (rp_len_nil Tryd.underlying9 rfl rfl) ?_) | (refine AL.rp rfl rfl (rp_len_str Tryd.underlying9 rfl rfl) ?_))
   (first | (refine AL.rp rfl rfl (rp_lssT rfl rfl rfl (by first | assumption | omega | (dsimp only; omega))) ?_) | (refine AL.rp rfl rfl (rp_lssF rfl rfl rfl (by first | assumption | omega | (dsimp only; omega))) ?_) | (refine AL.rp rfl rfl (rp_lss rfl rfl rfl) ?_))
   refine AL.nil ?_
   try simp only [thenS, S.put]
   refine AW.condT rfl ?_
   refine AW.skip ?_
   try simp only [thenS]
   refine AW.seq ?_
   refine AW.block ?_
   refine AW.seq ?_
   refine AW.region ?_
   refine AL.rp rfl rfl (rp_move rfl rfl) ?_
   refine AL.rp rfl rfl (rp_move rfl rfl) ?_
   refine AL.rp rfl rfl (rp_index_str Tryd.underlying9 rfl rfl rfl (by first | rfl | omega) (by assumption)) ?_
   (first | (refine AL.rp rfl rfl (rp_eqlT rfl rfl rfl (by first | assumption | omega | (dsimp only; omega))) ?_) | (refine AL.rp rfl rfl (rp_eqlF rfl rfl rfl (by first | assumption | omega | (dsimp only; omega))) ?_) | (refine AL.rp rfl rfl (rp_eql rfl rfl rfl) ?_))
   refine AL.nil ?_
   try simp only [thenS, S.put]
   refine AW.condF rfl ?_
   refine AW.skip ?_
   try simp only [thenS]
   refine AW.region ?_
   refine AL.rp rfl rfl (rp_move rfl rfl) ?_
   refine AL.rp rfl rfl (rp_add rfl rfl rfl (by first | omega | (dsimp only; omega))) ?_
   refine AL.rp rfl rfl (rp_assign rfl rfl) ?_
   refine AL.nil ?_
   try simp only [thenS, S.put]
   refine ⟨_, ?_, ⟨i + 1, z, by omega, by rw [e2]; exact hz, rfl⟩, ?_⟩
   ·rw [e1, e2]
    exact (Less.of rfl (by repeat (first | exact trivial | refine ⟨⟨_, rfl, Wk.refl _⟩, ?_⟩ | refine ⟨⟨_, rfl, Wk.nil _ _⟩, ?_⟩ | refine ⟨⟨_, rfl, Wk.junk _⟩, ?_⟩)) (by repeat (first | exact trivial | refine ⟨rfl, ?_⟩)) rfl)
   ·simp [S.nat, fnd]; omega
 ·obtain rfl : i = n := by omega
  refine AW.freeze 4 16 ((pcs 10 t i).map fun b => [.p (.string (bs b))]) rfl rfl rfl (by rw [List.length_map]) (by omega) (rows1 rfl) ?_
  refine AW.seq ?_
  refine AW.seq ?_
  refine AW.region ?_
  refine AL.rp rfl rfl (rp_move rfl rfl) ?_
  refine AL.rp rfl rfl (rp_move rfl rfl) ?_
  (first | (refine AL.rp rfl rfl (rp_len_map Tryd.underlying9 rfl rfl (by assumption)) ?_) | (refine AL.rp rfl rfl (rp_len_own Tryd.underlying9 rfl rfl) ?_) | (refine AL.rp rfl rfl (rp_len_sl Tryd.underlying9 rfl rfl) ?_) | (refine AL.rp rfl rfl (rp_len_nil Tryd.underlying9 rfl rfl) ?_) | (refine AL.rp rfl rfl (rp_len_str Tryd.underlying9 rfl rfl) ?_))
  (first | (refine AL.rp rfl rfl (rp_lssT rfl rfl rfl (by first | assumption | omega | (dsimp only; omega))) ?_) | (refine AL.rp rfl rfl (rp_lssF rfl rfl rfl (by first | assumption | omega | (dsimp only; omega))) ?_) | (refine AL.rp rfl rfl (rp_lss rfl rfl rfl) ?_))
  refine AL.nil ?_
  try simp only [thenS, S.put]
  refine AW.condF rfl ?_
  refine AW.exit ?_
  try simp only [thenS, inBlockS, ↓reduceIte, Nat.reduceEqDiff]
  refine AW.seq ?_
  refine AW.region ?_
  refine AL.rp rfl rfl (rp_move rfl rfl) ?_
  refine AL.rp rfl rfl (rp_move rfl rfl) ?_
  refine AL.rp rfl rfl (rp_move rfl rfl) ?_
  (first | (refine AL.rp rfl rfl (rp_len_map Tryd.underlying9 rfl rfl (by assumption)) ?_) | (refine AL.rp rfl rfl (rp_len_own Tryd.underlying9 rfl rfl) ?_) | (refine AL.rp rfl rfl (rp_len_sl Tryd.underlying9 rfl rfl) ?_) | (refine AL.rp rfl rfl (rp_len_nil Tryd.underlying9 rfl rfl) ?_) | (refine AL.rp rfl rfl (rp_len_str Tryd.underlying9 rfl rfl) ?_))
  (first | (refine AL.rp rfl rfl (rp_eqlT rfl rfl rfl (by first | assumption | omega | (dsimp only; omega))) ?_) | (refine AL.rp rfl rfl (rp_eqlF rfl rfl rfl (by first | assumption | omega | (dsimp only; omega))) ?_) | (refine AL.rp rfl rfl (rp_eql rfl rfl rfl) ?_))
  refine AL.rp rfl rfl (rp_assign rfl rfl) ?_
  refine AL.rp rfl rfl (rp_assign rfl rfl) ?_
  refine AL.nil ?_
  try simp only [thenS, S.put]
  refine AW.ret ?_
  refine ⟨[_, _], ⟨rfl, rfl, trivial⟩, ?_, by simp [tupOf, V.pure, V.has, V.hasL]⟩
  have hd : decide ((frm 10 t i : Int) = (((bs t).size : Nat) : Int)) = decide (frm 10 t i = i) := by
   rw [hsz, decide_eq_decide]
   omega
  rw [hd]
  rfl
/-- As frm and pcs, where the text's end ends a piece too. -/
def frmE (c : UInt8) (t : List UInt8) : Nat → Nat
 | 0 => 0
 | i + 1 => if i = t.length ∨ t[i]? = some c then i + 1 else frmE c t i
def pcsE (c : UInt8) (t : List UInt8) : Nat → List (List UInt8)
 | 0 => []
 | i + 1 => if i = t.length ∨ t[i]? = some c then pcsE c t i ++ [(t.take i).drop (frmE c t i)] else pcsE c t i
theorem frmE_le (c : UInt8) (t : List UInt8) : ∀ i, frmE c t i ≤ i
 | 0 => Nat.le_refl 0
 | i + 1 => by
  unfold frmE
  have := frmE_le c t i
  split <;> omega
theorem pcsE_len (c : UInt8) (t : List UInt8) : ∀ i, (pcsE c t i).length ≤ i
 | 0 => Nat.le_refl 0
 | i + 1 => by
  unfold pcsE
  have := pcsE_len c t i
  split
  ·simp; omega
  ·omega
set_option maxHeartbeats 1000000 in
theorem am_RParts (t : List UInt8) (ht : t.length ≤ 20000) : Fn Tryd.prog 22 [.s (bs t)] (fun v => v = .d (strsD (pcsE 32 t (t.length + 1)))) := by
 obtain ⟨n, hn⟩ : ∃ n, t.length = n := ⟨_, rfl⟩
 have hsz : (bs t).size = n := by rw [bs_size]; exact hn
 rw [hn] at ht ⊢
 refine Fn.intro (n := 32) ⟨Tryd.func22, rfl, rfl, rfl, rfl⟩ (by simp [V.pure, V.has, V.hasL]) (by simp) fun w0 out => ?_
 refine AW.seq ?_
 refine AW.region ?_
 refine AL.rp rfl rfl (rp_assign rfl rfl) ?_
 refine AL.nil ?_
 try simp only [thenS, S.put, enum, List.nil_append, List.cons_append, List.append_nil, Nat.zero_add, Nat.reduceAdd]
 refine AW.seq ?_
 refine AW.region ?_
 refine AL.rp rfl rfl (rp_assign rfl rfl) ?_
 refine AL.nil ?_
 try simp only [thenS, S.put]
 refine AW.seq ?_
 refine AW.region ?_
 refine AL.rp rfl rfl (rp_assign rfl rfl) ?_
 refine AL.nil ?_
 try simp only [thenS, S.put]
 refine AW.seq ?_
 refine AW.seq ?_
 refine AW.region ?_
 refine AL.rp rfl rfl (rp_assign rfl rfl) ?_
 refine AL.nil ?_
 try simp only [thenS, S.put]
 refine AW.block ?_
 refine AW.adopt 3 30 1 9 rfl (by simp [S.clean, V.has, V.hasL]) ?_
 refine AW.loop (fun s' => ∃ (i : Nat) (z : Bool), i ≤ n + 1 ∧ (z = (pcsE 32 t i).isEmpty) ∧ s' = ⟨32, [(0, .s (bs t)), (3, .own 30 1 (pcsE 32 t i).length z), (4, .i (frmE 32 t i)), (5, .i i)], [(30, ⟨9, strsC (pcsE 32 t i), z, 1⟩)], []⟩) (fun s' => n + 1 - s'.nat 5) ⟨_, ?_, 0, true, by omega, rfl, rfl⟩ ?_
 ·exact (Less.of rfl (by repeat (first | exact trivial | refine ⟨⟨_, rfl, Wk.refl _⟩, ?_⟩ | refine ⟨⟨_, rfl, Wk.nil _ _⟩, ?_⟩ | refine ⟨⟨_, rfl, Wk.junk _⟩, ?_⟩)) (by repeat (first | exact trivial | refine ⟨rfl, ?_⟩)) rfl)
 rintro s' ⟨i, z, hi, hz, rfl⟩
 have hf := frmE_le 32 t i
 have hp := pcsE_len 32 t i
 have app : (i = t.length ∨ t[i]? = some 32) → frmE 32 t (i + 1) = i + 1 ∧ pcsE 32 t (i + 1) = pcsE 32 t i ++ [(t.take i).drop (frmE 32 t i)] := fun e =>
  ⟨by show (if i = t.length ∨ t[i]? = some 32 then i + 1 else _) = _; rw [if_pos e], by show (if i = t.length ∨ t[i]? = some 32 then _ else _) = _; rw [if_pos e]⟩
 by_cases hlt : i < n
 ·obtain ⟨b, hb⟩ := get_lt hn hlt
  have hb' : (bs t).data.toList[i]? = some b := hb
  have hle : i ≤ n := by omega
  have hne : ¬ i = n := by omega
  by_cases h10 : b.toNat = 32
  ·obtain ⟨e1, e2⟩ := app (.inr (by rw [hb]; congr 1; exact UInt8.toNat_inj.1 h10))
   refine AW.seq ?_
   refine AW.seq ?_
   refine AW.region ?_
   refine AL.rp rfl rfl (rp_move rfl rfl) ?_
   refine AL.rp rfl rfl (rp_move rfl rfl) ?_
   (first | (refine AL.rp rfl rfl (rp_len_map Tryd.underlying9 rfl rfl (by assumption)) ?_) | (refine AL.rp rfl rfl (rp_len_own Tryd.underlying9 rfl rfl) ?_) | (refine AL.rp rfl rfl (rp_len_sl Tryd.underlying9 rfl rfl) ?_) | (refine AL.rp rfl rfl (rp_len_nil Tryd.underlying9 rfl rfl) ?_) | (refine AL.rp rfl rfl (rp_len_str Tryd.underlying9 rfl rfl) ?_))
   (first | (refine AL.rp rfl rfl (rp_leqT rfl rfl rfl (by first | assumption | omega | (dsimp only; omega))) ?_) | (refine AL.rp rfl rfl (rp_leqF rfl rfl rfl (by first | assumption | omega | (dsimp only; omega))) ?_) | (refine AL.rp rfl rfl (rp_leq rfl rfl rfl) ?_))
   refine AL.nil ?_
   try simp only [thenS, S.put]
   refine AW.condT rfl ?_
   refine AW.skip ?_
   try simp only [thenS]
   refine AW.seq ?_
   refine AW.block ?_
   refine AW.seq ?_
   refine AW.region ?_
   refine AL.rp rfl rfl (rp_move rfl rfl) ?_
   refine AL.rp rfl rfl (rp_move rfl rfl) ?_
   (first | (refine AL.rp rfl rfl (rp_len_map Tryd.underlying9 rfl rfl (by assumption)) ?_) | (refine AL.rp rfl rfl (rp_len_own Tryd.underlying9 rfl rfl) ?_) | (refine AL.rp rfl rfl (rp_len_sl Tryd.underlying9 rfl rfl) ?_) | (refine AL.rp rfl rfl (rp_len_nil Tryd.underlying9 rfl rfl) ?_) | (refine AL.rp rfl rfl (rp_len_str Tryd.underlying9 rfl rfl) ?_))
   (first | (refine AL.rp rfl rfl (rp_eqlT rfl rfl rfl (by first | assumption | omega | (dsimp only; omega))) ?_) | (refine AL.rp rfl rfl (rp_eqlF rfl rfl rfl (by first | assumption | omega | (dsimp only; omega))) ?_) | (refine AL.rp rfl rfl (rp_eql rfl rfl rfl) ?_))
   refine AL.rp rfl rfl (rp_move rfl rfl) ?_
   (first | (refine AL.noV rfl rfl rfl rfl ?_) | (refine AL.noU rfl ⟨_, rfl, rfl⟩ rfl ?_) | (refine AL.rpy rfl rfl rfl (rp_move rfl rfl) ?_))
   (first | (refine AL.noV rfl rfl rfl rfl ?_) | (refine AL.noU rfl ⟨_, rfl, rfl⟩ rfl ?_) | (refine AL.rpy rfl rfl rfl (rp_move rfl rfl) ?_))
   (first | (refine AL.noV rfl rfl rfl rfl ?_) | (refine AL.noU rfl ⟨_, rfl, rfl⟩ rfl ?_) | (refine AL.rpy rfl rfl rfl (rp_index_str Tryd.underlying9 rfl rfl rfl (by first | rfl | omega) (by assumption)) ?_))
   (first | (refine AL.noV rfl rfl rfl rfl ?_) | (refine AL.noU rfl ⟨_, rfl, rfl⟩ rfl ?_) | (refine AL.rpy rfl rfl rfl (rp_eqlT rfl rfl rfl (by first | assumption | omega | (dsimp only; omega))) ?_) | (refine AL.rpy rfl rfl rfl (rp_eqlF rfl rfl rfl (by first | assumption | omega | (dsimp only; omega))) ?_) | (refine AL.rpy rfl rfl rfl (rp_eql rfl rfl rfl) ?_))
   refine AL.rp rfl rfl (rp_pick rfl rfl rfl) ?_
   refine AL.nil ?_
   try simp only [thenS, S.put]
   refine AW.condT rfl ?_
   refine AW.seq ?_
   refine AW.region ?_
   refine AL.rp rfl rfl (rp_move rfl rfl) ?_
   refine AL.rp rfl rfl (rp_move rfl rfl) ?_
   refine AL.rp rfl rfl (rp_move rfl rfl) ?_
   refine AL.rp rfl rfl (rp_move rfl rfl) ?_
   refine AL.rp rfl rfl (rp_slice_strb Tryd.underlying9 rfl rfl rfl rfl rfl rfl (by omega) (by omega)) ?_
   refine AL.sm rfl (sm_slice (vs := [(0, _)]) (zs := [.d (.p (.string ⟨#[]⟩))]) 27 Tryd.underlying53 inf9 rfl rfl (by decide) (by decide) (by decide) rfl rfl rfl rfl (by first | rfl | simp [S.clean, S.put, S.newObj, S.forget, V.has, V.hasL, junkIf, setL, V.cs, hasL_i, hasL_d, hasL_b, hasL_s, hasL_n, hasL_rep, hasL_flat, hasL_append, -List.map_set]) (by first | rfl | simp [S.clean, S.put, S.newObj, S.forget, V.has, V.hasL, junkIf, setL, V.cs, hasL_i, hasL_d, hasL_b, hasL_s, hasL_n, hasL_rep, hasL_flat, hasL_append, -List.map_set]) rfl) ?_
   refine AL.st rfl (st_appendF Tryd.underlying53 inf9 rfl (by decide) rfl rfl rfl rfl rfl rfl (by first | assumption | rfl | (simp; done)) (by first | rfl | simp [S.clean, S.put, S.newObj, S.forget, V.has, V.hasL, junkIf, setL, V.cs, hasL_i, hasL_d, hasL_b, hasL_s, hasL_n, hasL_rep, hasL_flat, hasL_append, -List.map_set]) rfl rfl rfl rfl rfl (by first | rfl | simp [S.clean, S.put, S.newObj, S.forget, V.has, V.hasL, junkIf, setL, V.cs, hasL_i, hasL_d, hasL_b, hasL_s, hasL_n, hasL_rep, hasL_flat, hasL_append, -List.map_set]) rfl (by decide) (by omega) (by omega) rfl) ?_
   simp only [S.forget, S.put, S.newObj, junkIf, V.has, V.hasL, hasL_i, hasL_b, hasL_s, hasL_d, hasL_n, hasL_rep, hasL_flat, hasL_append, List.map_cons, List.map_nil, List.filter_cons, List.filter_nil, Nat.reduceBNe, Nat.reduceBEq, eq_self, bne_self_eq_false,  Bool.not_true, Bool.not_false, Bool.or_false, Bool.or_true, Bool.false_or, Bool.true_or, if_true, if_false, Bool.false_eq_true, ite_true, ite_false, ↓reduceIte, beq_self_eq_true, Nat.reduceEqDiff]
   refine AL.rp rfl rfl (rp_assign rfl rfl) ?_
   refine AL.nil ?_
   try simp only [thenS, S.put, S.newObj, setL, V.cs, List.length_cons, List.length_nil, List.take_succ_cons, List.take_zero, List.drop_succ_cons, List.drop_zero, List.drop_nil, List.nil_append, List.cons_append, List.append_nil, Nat.zero_add, Nat.reduceAdd, List.map_cons, List.map_nil, List.set_cons_zero, List.set_cons_succ]
   refine AW.region ?_
   refine AL.rp rfl rfl (rp_move rfl rfl) ?_
   refine AL.rp rfl rfl (rp_add rfl rfl rfl (by first | omega | (dsimp only; omega))) ?_
   refine AL.rp rfl rfl (rp_assign rfl rfl) ?_
   refine AL.nil ?_
   try simp only [thenS, S.put]
   refine AW.region ?_
   refine AL.rp rfl rfl (rp_move rfl rfl) ?_
   refine AL.rp rfl rfl (rp_add rfl rfl rfl (by first | omega | (dsimp only; omega))) ?_
   refine AL.rp rfl rfl (rp_assign rfl rfl) ?_
   refine AL.nil ?_
   try simp only [thenS, S.put]
   refine ⟨⟨32, [(0, .s (bs t)), (3, .own 30 1 ((pcsE 32 t i).length + 1) false), (4, .i (i + 1 : Nat)), (5, .i (i + 1 : Nat))], [(30, ⟨9, strsC (pcsE 32 t i) ++ [.s (bs ((t.take i).drop (frmE 32 t i)))], false, 1⟩)], []⟩, (Less.of rfl (by repeat (first | exact trivial | refine ⟨⟨_, rfl, Wk.refl _⟩, ?_⟩ | refine ⟨⟨_, rfl, Wk.nil _ _⟩, ?_⟩ | refine ⟨⟨_, rfl, Wk.junk _⟩, ?_⟩)) (by repeat (first | exact trivial | refine ⟨rfl, ?_⟩)) rfl), ⟨i + 1, false, by omega, by rw [e2]; simp, ?_⟩, ?_⟩
   ·rw [e1, e2]
    simp [strsC]
   ·simp [S.nat, fnd]; omega
  ·have e : ¬ (i = t.length ∨ t[i]? = some 32) := by
    rw [hb, hn]
    rintro (h | h)
    ·exact hne h
    ·cases h
     exact h10 rfl
   have e1 : frmE 32 t (i + 1) = frmE 32 t i := by show (if i = t.length ∨ t[i]? = some 32 then i + 1 else _) = _; rw [if_neg e]
   have e2 : pcsE 32 t (i + 1) = pcsE 32 t i := by show (if i = t.length ∨ t[i]? = some 32 then _ else _) = _; rw [if_neg e]
   refine AW.seq ?_
   refine AW.seq ?_
   refine AW.region ?_
   refine AL.rp rfl rfl (rp_move rfl rfl) ?_
   refine AL.rp rfl rfl (rp_move rfl rfl) ?_
   (first | (refine AL.rp rfl rfl (rp_len_map Tryd.underlying9 rfl rfl (by assumption)) ?_) | (refine AL.rp rfl rfl (rp_len_own Tryd.underlying9 rfl rfl) ?_) | (refine AL.rp rfl rfl (rp_len_sl Tryd.underlying9 rfl rfl) ?_) | (refine AL.rp rfl rfl (rp_len_nil Tryd.underlying9 rfl rfl) ?_) | (refine AL.rp rfl rfl (rp_len_str Tryd.underlying9 rfl rfl) ?_))
   (first | (refine AL.rp rfl rfl (rp_leqT rfl rfl rfl (by first | assumption | omega | (dsimp only; omega))) ?_) | (refine AL.rp rfl rfl (rp_leqF rfl rfl rfl (by first | assumption | omega | (dsimp only; omega))) ?_) | (refine AL.rp rfl rfl (rp_leq rfl rfl rfl) ?_))
   refine AL.nil ?_
   try simp only [thenS, S.put]
   refine AW.condT rfl ?_
   refine AW.skip ?_
   try simp only [thenS]
   refine AW.seq ?_
   refine AW.block ?_
   refine AW.seq ?_
   refine AW.region ?_
   refine AL.rp rfl rfl (rp_move rfl rfl) ?_
   refine AL.rp rfl rfl (rp_move rfl rfl) ?_
   (first | (refine AL.rp rfl rfl (rp_len_map Tryd.underlying9 rfl rfl (by assumption)) ?_) | (refine AL.rp rfl rfl (rp_len_own Tryd.underlying9 rfl rfl) ?_) | (refine AL.rp rfl rfl (rp_len_sl Tryd.underlying9 rfl rfl) ?_) | (refine AL.rp rfl rfl (rp_len_nil Tryd.underlying9 rfl rfl) ?_) | (refine AL.rp rfl rfl (rp_len_str Tryd.underlying9 rfl rfl) ?_))
   (first | (refine AL.rp rfl rfl (rp_eqlT rfl rfl rfl (by first | assumption | omega | (dsimp only; omega))) ?_) | (refine AL.rp rfl rfl (rp_eqlF rfl rfl rfl (by first | assumption | omega | (dsimp only; omega))) ?_) | (refine AL.rp rfl rfl (rp_eql rfl rfl rfl) ?_))
   refine AL.rp rfl rfl (rp_move rfl rfl) ?_
   (first | (refine AL.noV rfl rfl rfl rfl ?_) | (refine AL.noU rfl ⟨_, rfl, rfl⟩ rfl ?_) | (refine AL.rpy rfl rfl rfl (rp_move rfl rfl) ?_))
   (first | (refine AL.noV rfl rfl rfl rfl ?_) | (refine AL.noU rfl ⟨_, rfl, rfl⟩ rfl ?_) | (refine AL.rpy rfl rfl rfl (rp_move rfl rfl) ?_))
   (first | (refine AL.noV rfl rfl rfl rfl ?_) | (refine AL.noU rfl ⟨_, rfl, rfl⟩ rfl ?_) | (refine AL.rpy rfl rfl rfl (rp_index_str Tryd.underlying9 rfl rfl rfl (by first | rfl | omega) (by assumption)) ?_))
   (first | (refine AL.noV rfl rfl rfl rfl ?_) | (refine AL.noU rfl ⟨_, rfl, rfl⟩ rfl ?_) | (refine AL.rpy rfl rfl rfl (rp_eqlT rfl rfl rfl (by first | assumption | omega | (dsimp only; omega))) ?_) | (refine AL.rpy rfl rfl rfl (rp_eqlF rfl rfl rfl (by first | assumption | omega | (dsimp only; omega))) ?_) | (refine AL.rpy rfl rfl rfl (rp_eql rfl rfl rfl) ?_))
   refine AL.rp rfl rfl (rp_pick rfl rfl rfl) ?_
   refine AL.nil ?_
   try simp only [thenS, S.put]
   refine AW.condF rfl ?_
   refine AW.skip ?_
   try simp only [thenS]
   refine AW.region ?_
   refine AL.rp rfl rfl (rp_move rfl rfl) ?_
   refine AL.rp rfl rfl (rp_add rfl rfl rfl (by first | omega | (dsimp only; omega))) ?_
   refine AL.rp rfl rfl (rp_assign rfl rfl) ?_
   refine AL.nil ?_
   try simp only [thenS, S.put]
   refine ⟨_, ?_, ⟨i + 1, z, by omega, by rw [e2]; exact hz, rfl⟩, ?_⟩
   ·rw [e1, e2]
    exact (Less.of rfl (by repeat (first | exact trivial | refine ⟨⟨_, rfl, Wk.refl _⟩, ?_⟩ | refine ⟨⟨_, rfl, Wk.nil _ _⟩, ?_⟩ | refine ⟨⟨_, rfl, Wk.junk _⟩, ?_⟩)) (by repeat (first | exact trivial | refine ⟨rfl, ?_⟩)) rfl)
   ·simp [S.nat, fnd]; omega
 ·by_cases he : i = n
  ·subst he
   obtain ⟨e1, e2⟩ := app (.inl hn.symm)
   have hle : i ≤ i := Nat.le_refl i
   refine AW.seq ?_
   refine AW.seq ?_
   refine AW.region ?_
   refine AL.rp rfl rfl (rp_move rfl rfl) ?_
   refine AL.rp rfl rfl (rp_move rfl rfl) ?_
   (first | (refine AL.rp rfl rfl (rp_len_map Tryd.underlying9 rfl rfl (by assumption)) ?_) | (refine AL.rp rfl rfl (rp_len_own Tryd.underlying9 rfl rfl) ?_) | (refine AL.rp rfl rfl (rp_len_sl Tryd.underlying9 rfl rfl) ?_) | (refine AL.rp rfl rfl (rp_len_nil Tryd.underlying9 rfl rfl) ?_) | (refine AL.rp rfl rfl (rp_len_str Tryd.underlying9 rfl rfl) ?_))
   (first | (refine AL.rp rfl rfl (rp_leqT rfl rfl rfl (by first | assumption | omega | (dsimp only; omega))) ?_) | (refine AL.rp rfl rfl (rp_leqF rfl rfl rfl (by first | assumption | omega | (dsimp only; omega))) ?_) | (refine AL.rp rfl rfl (rp_leq rfl rfl rfl) ?_))
   refine AL.nil ?_
   try simp only [thenS, S.put]
   refine AW.condT rfl ?_
   refine AW.skip ?_
   try simp only [thenS]
   refine AW.seq ?_
   refine AW.block ?_
   refine AW.seq ?_
   refine AW.region ?_
   refine AL.rp rfl rfl (rp_move rfl rfl) ?_
   refine AL.rp rfl rfl (rp_move rfl rfl) ?_
   (first | (refine AL.rp rfl rfl (rp_len_map Tryd.underlying9 rfl rfl (by assumption)) ?_) | (refine AL.rp rfl rfl (rp_len_own Tryd.underlying9 rfl rfl) ?_) | (refine AL.rp rfl rfl (rp_len_sl Tryd.underlying9 rfl rfl) ?_) | (refine AL.rp rfl rfl (rp_len_nil Tryd.underlying9 rfl rfl) ?_) | (refine AL.rp rfl rfl (rp_len_str Tryd.underlying9 rfl rfl) ?_))
   (first | (refine AL.rp rfl rfl (rp_eqlT rfl rfl rfl (by first | assumption | omega | (dsimp only; omega))) ?_) | (refine AL.rp rfl rfl (rp_eqlF rfl rfl rfl (by first | assumption | omega | (dsimp only; omega))) ?_) | (refine AL.rp rfl rfl (rp_eql rfl rfl rfl) ?_))
   refine AL.rp rfl rfl (rp_move rfl rfl) ?_
   (first | (refine AL.noV rfl rfl rfl rfl ?_) | (refine AL.noU rfl ⟨_, rfl, rfl⟩ rfl ?_) | (refine AL.rpy rfl rfl rfl (rp_move rfl rfl) ?_))
   (first | (refine AL.noV rfl rfl rfl rfl ?_) | (refine AL.noU rfl ⟨_, rfl, rfl⟩ rfl ?_) | (refine AL.rpy rfl rfl rfl (rp_move rfl rfl) ?_))
   (first | (refine AL.noV rfl rfl rfl rfl ?_) | (refine AL.noU rfl ⟨_, rfl, rfl⟩ rfl ?_) | (refine AL.rpy rfl rfl rfl (rp_index_str Tryd.underlying9 rfl rfl rfl (by first | rfl | omega) (by assumption)) ?_))
   (first | (refine AL.noV rfl rfl rfl rfl ?_) | (refine AL.noU rfl ⟨_, rfl, rfl⟩ rfl ?_) | (refine AL.rpy rfl rfl rfl (rp_eqlT rfl rfl rfl (by first | assumption | omega | (dsimp only; omega))) ?_) | (refine AL.rpy rfl rfl rfl (rp_eqlF rfl rfl rfl (by first | assumption | omega | (dsimp only; omega))) ?_) | (refine AL.rpy rfl rfl rfl (rp_eql rfl rfl rfl) ?_))
   refine AL.rp rfl rfl (rp_pick rfl rfl rfl) ?_
   refine AL.nil ?_
   try simp only [thenS, S.put]
   refine AW.condT rfl ?_
   refine AW.seq ?_
   refine AW.region ?_
   refine AL.rp rfl rfl (rp_move rfl rfl) ?_
   refine AL.rp rfl rfl (rp_move rfl rfl) ?_
   refine AL.rp rfl rfl (rp_move rfl rfl) ?_
   refine AL.rp rfl rfl (rp_move rfl rfl) ?_
   refine AL.rp rfl rfl (rp_slice_strb Tryd.underlying9 rfl rfl rfl rfl rfl rfl (by omega) (by omega)) ?_
   refine AL.sm rfl (sm_slice (vs := [(0, _)]) (zs := [.d (.p (.string ⟨#[]⟩))]) 27 Tryd.underlying53 inf9 rfl rfl (by decide) (by decide) (by decide) rfl rfl rfl rfl (by first | rfl | simp [S.clean, S.put, S.newObj, S.forget, V.has, V.hasL, junkIf, setL, V.cs, hasL_i, hasL_d, hasL_b, hasL_s, hasL_n, hasL_rep, hasL_flat, hasL_append, -List.map_set]) (by first | rfl | simp [S.clean, S.put, S.newObj, S.forget, V.has, V.hasL, junkIf, setL, V.cs, hasL_i, hasL_d, hasL_b, hasL_s, hasL_n, hasL_rep, hasL_flat, hasL_append, -List.map_set]) rfl) ?_
   refine AL.st rfl (st_appendF Tryd.underlying53 inf9 rfl (by decide) rfl rfl rfl rfl rfl rfl (by first | assumption | rfl | (simp; done)) (by first | rfl | simp [S.clean, S.put, S.newObj, S.forget, V.has, V.hasL, junkIf, setL, V.cs, hasL_i, hasL_d, hasL_b, hasL_s, hasL_n, hasL_rep, hasL_flat, hasL_append, -List.map_set]) rfl rfl rfl rfl rfl (by first | rfl | simp [S.clean, S.put, S.newObj, S.forget, V.has, V.hasL, junkIf, setL, V.cs, hasL_i, hasL_d, hasL_b, hasL_s, hasL_n, hasL_rep, hasL_flat, hasL_append, -List.map_set]) rfl (by decide) (by omega) (by omega) rfl) ?_
   simp only [S.forget, S.put, S.newObj, junkIf, V.has, V.hasL, hasL_i, hasL_b, hasL_s, hasL_d, hasL_n, hasL_rep, hasL_flat, hasL_append, List.map_cons, List.map_nil, List.filter_cons, List.filter_nil, Nat.reduceBNe, Nat.reduceBEq, eq_self, bne_self_eq_false,  Bool.not_true, Bool.not_false, Bool.or_false, Bool.or_true, Bool.false_or, Bool.true_or, if_true, if_false, Bool.false_eq_true, ite_true, ite_false, ↓reduceIte, beq_self_eq_true, Nat.reduceEqDiff]
   refine AL.rp rfl rfl (rp_assign rfl rfl) ?_
   refine AL.nil ?_
   try simp only [thenS, S.put, S.newObj, setL, V.cs, List.length_cons, List.length_nil, List.take_succ_cons, List.take_zero, List.drop_succ_cons, List.drop_zero, List.drop_nil, List.nil_append, List.cons_append, List.append_nil, Nat.zero_add, Nat.reduceAdd, List.map_cons, List.map_nil, List.set_cons_zero, List.set_cons_succ]
   refine AW.region ?_
   refine AL.rp rfl rfl (rp_move rfl rfl) ?_
   refine AL.rp rfl rfl (rp_add rfl rfl rfl (by first | omega | (dsimp only; omega))) ?_
   refine AL.rp rfl rfl (rp_assign rfl rfl) ?_
   refine AL.nil ?_
   try simp only [thenS, S.put]
   refine AW.region ?_
   refine AL.rp rfl rfl (rp_move rfl rfl) ?_
   refine AL.rp rfl rfl (rp_add rfl rfl rfl (by first | omega | (dsimp only; omega))) ?_
   refine AL.rp rfl rfl (rp_assign rfl rfl) ?_
   refine AL.nil ?_
   try simp only [thenS, S.put]
   refine ⟨⟨32, [(0, .s (bs t)), (3, .own 30 1 ((pcsE 32 t i).length + 1) false), (4, .i (i + 1 : Nat)), (5, .i (i + 1 : Nat))], [(30, ⟨9, strsC (pcsE 32 t i) ++ [.s (bs ((t.take i).drop (frmE 32 t i)))], false, 1⟩)], []⟩, (Less.of rfl (by repeat (first | exact trivial | refine ⟨⟨_, rfl, Wk.refl _⟩, ?_⟩ | refine ⟨⟨_, rfl, Wk.nil _ _⟩, ?_⟩ | refine ⟨⟨_, rfl, Wk.junk _⟩, ?_⟩)) (by repeat (first | exact trivial | refine ⟨rfl, ?_⟩)) rfl), ⟨i + 1, false, by omega, by rw [e2]; simp, ?_⟩, ?_⟩
   ·rw [e1, e2]
    simp [strsC]
   ·simp [S.nat, fnd]
  ·obtain rfl : i = n + 1 := by omega
   refine AW.freeze 3 16 ((pcsE 32 t (n + 1)).map fun b => [.p (.string (bs b))]) rfl rfl rfl (by rw [List.length_map]) (by omega) (rows1 rfl) ?_
   refine AW.seq ?_
   refine AW.seq ?_
   refine AW.region ?_
   refine AL.rp rfl rfl (rp_move rfl rfl) ?_
   refine AL.rp rfl rfl (rp_move rfl rfl) ?_
   (first | (refine AL.rp rfl rfl (rp_len_map Tryd.underlying9 rfl rfl (by assumption)) ?_) | (refine AL.rp rfl rfl (rp_len_own Tryd.underlying9 rfl rfl) ?_) | (refine AL.rp rfl rfl (rp_len_sl Tryd.underlying9 rfl rfl) ?_) | (refine AL.rp rfl rfl (rp_len_nil Tryd.underlying9 rfl rfl) ?_) | (refine AL.rp rfl rfl (rp_len_str Tryd.underlying9 rfl rfl) ?_))
   (first | (refine AL.rp rfl rfl (rp_leqT rfl rfl rfl (by first | assumption | omega | (dsimp only; omega))) ?_) | (refine AL.rp rfl rfl (rp_leqF rfl rfl rfl (by first | assumption | omega | (dsimp only; omega))) ?_) | (refine AL.rp rfl rfl (rp_leq rfl rfl rfl) ?_))
   refine AL.nil ?_
   try simp only [thenS, S.put]
   refine AW.condF rfl ?_
   refine AW.exit ?_
   try simp only [thenS, inBlockS, ↓reduceIte, Nat.reduceEqDiff]
   refine AW.seq ?_
   refine AW.region ?_
   refine AL.rp rfl rfl (rp_move rfl rfl) ?_
   refine AL.rp rfl rfl (rp_assign rfl rfl) ?_
   refine AL.nil ?_
   try simp only [thenS, S.put]
   refine AW.ret ?_
   exact ⟨[_], ⟨rfl, trivial⟩, rfl, by simp [tupOf, V.pure, V.has, V.hasL]⟩
end Go.Proofs.YtlgnjehfojogmaaDoor
namespace Go.Proofs.YtlgnjehfojogmaaDoor
open Go.RowKit
set_option linter.unusedSimpArgs false
set_option linter.unusedVariables false
set_option maxRecDepth 100000

section
variable {c : Cx} {s : S} {o : Oper}
theorem rp_sub8 {t t' : TypeId} {x y : Operand} {m n : Int} (ho : o.op = .binOp .sub t x y t') (hx : s.ev x = some (.d (.p (.int .u8 m)))) (hy : s.ev y = some (.d (.p (.int .u8 n)))) (h : 0 ≤ m - n ∧ m - n ≤ 255) : RP c o s (.d (.p (.int .u8 (m - n)))) :=
 rp_bin ho hx hy fun w => by
  have : IntKind.u8.wrap (m - n) = m - n := by rw [wrap8]; omega
  simp [eqGuard, binOp, Op.intArith, this]
end
end Go.Proofs.YtlgnjehfojogmaaDoor
namespace Go.Proofs.YtlgnjehfojogmaaDoor
open Go.RowKit
set_option linter.unusedSimpArgs false
set_option linter.unusedVariables false
set_option maxRecDepth 100000

end Go.Proofs.YtlgnjehfojogmaaDoor
namespace Go.Proofs.YtlgnjehfojogmaaDoor
open Go.RowKit
set_option linter.unusedSimpArgs false
set_option linter.unusedVariables false
set_option maxRecDepth 100000

def wdP (l : List UInt8) (n : Nat) : Prop := ∀ (k : Nat) (b : UInt8), k < n → l[k]? = some b → chLet b ∨ (chDig b ∧ 0 < k)
theorem wdP_ok {l : List UInt8} (h1 : 1 ≤ l.length) (h2 : l.length ≤ 12) (h : wdP l l.length) : nmB l = true := nmB_true ⟨h1, h2, fun k b hb => h k b (List.getElem?_eq_some_iff.1 hb).1 hb⟩
theorem wdP_no {l : List UInt8} {k : Nat} {b : UInt8} (hb : l[k]? = some b) (h : ¬ (chLet b ∨ (chDig b ∧ 0 < k))) : nmB l = false := nmB_false fun ⟨_, _, hp⟩ => h (hp k b hb)
theorem wdP_snoc {l : List UInt8} {n : Nat} {b : UInt8} (h : wdP l n) (hb : l[n]? = some b) (hc : chLet b ∨ (chDig b ∧ 0 < n)) : wdP l (n + 1) := by
  intro k c hk hc'
  by_cases e : k = n
  · subst e; rw [hb] at hc'; cases hc'; exact hc
  · exact h k c (by omega) hc'
end Go.Proofs.YtlgnjehfojogmaaDoor
namespace Go.Proofs.YtlgnjehfojogmaaDoor
open Go.RowKit
set_option linter.unusedSimpArgs false
set_option linter.unusedVariables false
set_option maxRecDepth 100000

theorem am_In (n lo hi : Int) : Fn Tryd.prog 47 [.i n, .i lo, .i hi] (fun v => v = .b (decide (lo ≤ n ∧ n ≤ hi))) := by
 refine Fn.intro (n := 15) ⟨Tryd.func47, rfl, rfl, rfl, rfl⟩ (by simp [V.pure, V.has, V.hasL]) (by simp) fun w0 out => ?_
 by_cases h1 : lo ≤ n
 ·by_cases h2 : n ≤ hi
  ·skip
   refine AW.seq ?_
   refine AW.region ?_
   refine AL.rp rfl rfl (rp_assign rfl rfl) ?_
   refine AL.nil ?_
   try simp only [thenS, S.put, enum, List.nil_append, List.cons_append, List.append_nil, Nat.zero_add, Nat.reduceAdd]
   refine AW.seq ?_
   refine AW.region ?_
   refine AL.rp rfl rfl (rp_move rfl rfl) ?_
   refine AL.rp rfl rfl (rp_move rfl rfl) ?_
   (first | (refine AL.rp rfl rfl (rp_geqT rfl rfl rfl (by first | assumption | omega | (dsimp only; omega))) ?_) | (refine AL.rp rfl rfl (rp_geqF rfl rfl rfl (by first | assumption | omega | (dsimp only; omega))) ?_) | (refine AL.rp rfl rfl (rp_geq rfl rfl rfl) ?_))
   refine AL.rp rfl rfl (rp_move rfl rfl) ?_
   (first | (refine AL.no rfl rfl rfl rfl ?_) | (refine AL.rpy rfl rfl rfl (rp_move rfl rfl) ?_))
   (first | (refine AL.no rfl rfl rfl rfl ?_) | (refine AL.rpy rfl rfl rfl (rp_move rfl rfl) ?_))
   (first | (refine AL.no rfl rfl rfl rfl ?_) | (refine AL.rpy rfl rfl rfl (rp_leqT rfl rfl rfl (by first | assumption | omega | (dsimp only; omega))) ?_) | (refine AL.rpy rfl rfl rfl (rp_leqF rfl rfl rfl (by first | assumption | omega | (dsimp only; omega))) ?_) | (refine AL.rpy rfl rfl rfl (rp_leq rfl rfl rfl) ?_))
   refine AL.rp rfl rfl (rp_pick rfl rfl rfl) ?_
   refine AL.rp rfl rfl (rp_assign rfl rfl) ?_
   refine AL.nil ?_
   try simp only [thenS, S.put]
   refine AW.ret ?_
   exact ⟨[_], ⟨rfl, trivial⟩, by simp [tupOf, h1, h2], by simp [tupOf, V.pure, V.has]⟩
  ·skip
   refine AW.seq ?_
   refine AW.region ?_
   refine AL.rp rfl rfl (rp_assign rfl rfl) ?_
   refine AL.nil ?_
   try simp only [thenS, S.put, enum, List.nil_append, List.cons_append, List.append_nil, Nat.zero_add, Nat.reduceAdd]
   refine AW.seq ?_
   refine AW.region ?_
   refine AL.rp rfl rfl (rp_move rfl rfl) ?_
   refine AL.rp rfl rfl (rp_move rfl rfl) ?_
   (first | (refine AL.rp rfl rfl (rp_geqT rfl rfl rfl (by first | assumption | omega | (dsimp only; omega))) ?_) | (refine AL.rp rfl rfl (rp_geqF rfl rfl rfl (by first | assumption | omega | (dsimp only; omega))) ?_) | (refine AL.rp rfl rfl (rp_geq rfl rfl rfl) ?_))
   refine AL.rp rfl rfl (rp_move rfl rfl) ?_
   (first | (refine AL.no rfl rfl rfl rfl ?_) | (refine AL.rpy rfl rfl rfl (rp_move rfl rfl) ?_))
   (first | (refine AL.no rfl rfl rfl rfl ?_) | (refine AL.rpy rfl rfl rfl (rp_move rfl rfl) ?_))
   (first | (refine AL.no rfl rfl rfl rfl ?_) | (refine AL.rpy rfl rfl rfl (rp_leqT rfl rfl rfl (by first | assumption | omega | (dsimp only; omega))) ?_) | (refine AL.rpy rfl rfl rfl (rp_leqF rfl rfl rfl (by first | assumption | omega | (dsimp only; omega))) ?_) | (refine AL.rpy rfl rfl rfl (rp_leq rfl rfl rfl) ?_))
   refine AL.rp rfl rfl (rp_pick rfl rfl rfl) ?_
   refine AL.rp rfl rfl (rp_assign rfl rfl) ?_
   refine AL.nil ?_
   try simp only [thenS, S.put]
   refine AW.ret ?_
   exact ⟨[_], ⟨rfl, trivial⟩, by simp [tupOf, h1, h2], by simp [tupOf, V.pure, V.has]⟩
 ·skip
  refine AW.seq ?_
  refine AW.region ?_
  refine AL.rp rfl rfl (rp_assign rfl rfl) ?_
  refine AL.nil ?_
  try simp only [thenS, S.put, enum, List.nil_append, List.cons_append, List.append_nil, Nat.zero_add, Nat.reduceAdd]
  refine AW.seq ?_
  refine AW.region ?_
  refine AL.rp rfl rfl (rp_move rfl rfl) ?_
  refine AL.rp rfl rfl (rp_move rfl rfl) ?_
  (first | (refine AL.rp rfl rfl (rp_geqT rfl rfl rfl (by first | assumption | omega | (dsimp only; omega))) ?_) | (refine AL.rp rfl rfl (rp_geqF rfl rfl rfl (by first | assumption | omega | (dsimp only; omega))) ?_) | (refine AL.rp rfl rfl (rp_geq rfl rfl rfl) ?_))
  refine AL.rp rfl rfl (rp_move rfl rfl) ?_
  (first | (refine AL.no rfl rfl rfl rfl ?_) | (refine AL.rpy rfl rfl rfl (rp_move rfl rfl) ?_))
  (first | (refine AL.no rfl rfl rfl rfl ?_) | (refine AL.rpy rfl rfl rfl (rp_move rfl rfl) ?_))
  (first | (refine AL.no rfl rfl rfl rfl ?_) | (refine AL.rpy rfl rfl rfl (rp_leqT rfl rfl rfl (by first | assumption | omega | (dsimp only; omega))) ?_) | (refine AL.rpy rfl rfl rfl (rp_leqF rfl rfl rfl (by first | assumption | omega | (dsimp only; omega))) ?_) | (refine AL.rpy rfl rfl rfl (rp_leq rfl rfl rfl) ?_))
  refine AL.rp rfl rfl (rp_pick rfl rfl rfl) ?_
  refine AL.rp rfl rfl (rp_assign rfl rfl) ?_
  refine AL.nil ?_
  try simp only [thenS, S.put]
  refine AW.ret ?_
  exact ⟨[_], ⟨rfl, trivial⟩, by simp [tupOf, h1], by simp [tupOf, V.pure, V.has]⟩

end Go.Proofs.YtlgnjehfojogmaaDoor
namespace Go.Proofs.YtlgnjehfojogmaaDoor
open Go.RowKit
set_option linter.unusedSimpArgs false
set_option linter.unusedVariables false
set_option maxRecDepth 100000

set_option maxHeartbeats 1000000 in
theorem am_NameMay (s : ByteArray) : Fn Tryd.prog 48 [.s s] (fun v => v = .b (nmB s.data.toList)) := by
 obtain ⟨l, hl⟩ : ∃ l, s.data.toList = l := ⟨_, rfl⟩
 obtain ⟨n, hn⟩ : ∃ n, l.length = n := ⟨_, rfl⟩
 have hsz : s.size = n := by rw [← hn, ← hl]; exact Array.length_toList.symm
 rw [hl]
 by_cases hr : 1 ≤ n ∧ n ≤ 12
 ·obtain ⟨hr1, hr2⟩ := hr
  obtain ⟨b0, hb0⟩ : ∃ b0, l[0]? = some b0 := ⟨_, List.getElem?_eq_getElem (by omega)⟩
  have hs0 : s.data.toList[0]? = some b0 := by rw [hl]; exact hb0
  by_cases hd0 : 48 ≤ b0.toNat ∧ b0.toNat ≤ 57
  ·have hR : nmB l = false := wdP_no hb0 (by unfold chLet chDig; omega)
   rw [hR]
   have hcon := Fn.decT (am_Digit b0) hd0
   refine Fn.intro (n := 39) ⟨Tryd.func48, rfl, rfl, rfl, rfl⟩ (by simp [V.pure, V.has, V.hasL]) (by simp) fun w0 out => ?_
   refine AW.seq ?_
   refine AW.region ?_
   refine AL.rp rfl rfl (rp_assign rfl rfl) ?_
   refine AL.nil ?_
   try simp only [thenS, S.put, enum, List.nil_append, List.cons_append, List.append_nil, Nat.zero_add, Nat.reduceAdd]
   refine AW.seq ?_
   refine AW.seq ?_
   refine AW.region ?_
   refine AL.rp rfl rfl (rp_move rfl rfl) ?_
   (first | (refine AL.rp rfl rfl (rp_len_map Tryd.underlying9 rfl rfl (by assumption)) ?_) | (refine AL.rp rfl rfl (rp_len_own Tryd.underlying9 rfl rfl) ?_) | (refine AL.rp rfl rfl (rp_len_sl Tryd.underlying9 rfl rfl) ?_) | (refine AL.rp rfl rfl (rp_len_nil Tryd.underlying9 rfl rfl) ?_) | (refine AL.rp rfl rfl (rp_len_str Tryd.underlying9 rfl rfl) ?_))
   refine AL.call (post := ?pc4) rfl (sm_call (args := [_, _, _]) ?hc4 ⟨Tryd.func47, rfl, rfl, rfl, rfl⟩ rfl rfl rfl rfl) ?_
   case hc4 => first | (refine Fn.decT (am_In _ _ _) ?_; omega) | (refine Fn.decF (am_In _ _ _) ?_; omega) | exact am_In _ _ _
   rintro _ rfl -
   try dsimp only
   refine AL.rp rfl rfl (rp_not rfl rfl) ?_
   refine AL.rp rfl rfl (rp_move rfl rfl) ?_
   (first | (refine AL.noV rfl rfl rfl rfl ?_) | (refine AL.noU rfl ⟨_, rfl, rfl⟩ rfl ?_) | (refine AL.rpy rfl rfl rfl (rp_move rfl rfl) ?_))
   (first | (refine AL.noV rfl rfl rfl rfl ?_) | (refine AL.noU rfl ⟨_, rfl, rfl⟩ rfl ?_) | (refine AL.rpy rfl rfl rfl (rp_index_str Tryd.underlying9 rfl rfl rfl (by first | rfl | omega) (by assumption)) ?_))
   (first | (refine AL.no rfl rfl rfl rfl ?_) | (refine AL.noU rfl ⟨_, rfl, rfl⟩ rfl ?_) | (refine AL.cally (post := ?pc5) rfl rfl (sm_call (args := [_]) ?hc5 ⟨Tryd.func46, rfl, rfl, rfl, rfl⟩ rfl rfl rfl rfl) ?_; (case hc5 => (first | (refine Fn.decT (am_Digit _) ?_; omega) | (refine Fn.decF (am_Digit _) ?_; omega) | exact am_Digit _)); rintro _ rfl -; try dsimp only))
   refine AL.rp rfl rfl (rp_pick rfl rfl rfl) ?_
   refine AL.nil ?_
   try simp only [thenS, S.put, S.newObj, setL, V.cs, List.length_cons, List.length_nil, List.take_succ_cons, List.take_zero, List.drop_succ_cons, List.drop_zero, List.drop_nil, List.nil_append, List.cons_append, List.append_nil, Nat.zero_add, Nat.reduceAdd, List.map_cons, List.map_nil, List.set_cons_zero, List.set_cons_succ]
   refine AW.condT rfl ?_
   refine AW.seq ?_
   refine AW.region ?_
   refine AL.rp rfl rfl (rp_assign rfl rfl) ?_
   refine AL.nil ?_
   try simp only [thenS, S.put]
   refine AW.ret ?_
   -- left over: 
   exact ⟨[_], ⟨rfl, trivial⟩, rfl, by simp [tupOf, V.pure, V.has, V.hasL]⟩
  ·refine Fn.intro (n := 39) ⟨Tryd.func48, rfl, rfl, rfl, rfl⟩ (by simp [V.pure, V.has, V.hasL]) (by simp) fun w0 out => ?_
   refine AW.seq ?_
   refine AW.region ?_
   refine AL.rp rfl rfl (rp_assign rfl rfl) ?_
   refine AL.nil ?_
   try simp only [thenS, S.put, enum, List.nil_append, List.cons_append, List.append_nil, Nat.zero_add, Nat.reduceAdd]
   refine AW.seq ?_
   refine AW.seq ?_
   refine AW.region ?_
   refine AL.rp rfl rfl (rp_move rfl rfl) ?_
   (first | (refine AL.rp rfl rfl (rp_len_map Tryd.underlying9 rfl rfl (by assumption)) ?_) | (refine AL.rp rfl rfl (rp_len_own Tryd.underlying9 rfl rfl) ?_) | (refine AL.rp rfl rfl (rp_len_sl Tryd.underlying9 rfl rfl) ?_) | (refine AL.rp rfl rfl (rp_len_nil Tryd.underlying9 rfl rfl) ?_) | (refine AL.rp rfl rfl (rp_len_str Tryd.underlying9 rfl rfl) ?_))
   refine AL.call (post := ?pc6) rfl (sm_call (args := [_, _, _]) ?hc6 ⟨Tryd.func47, rfl, rfl, rfl, rfl⟩ rfl rfl rfl rfl) ?_
   case hc6 => first | (refine Fn.decT (am_In _ _ _) ?_; omega) | (refine Fn.decF (am_In _ _ _) ?_; omega) | exact am_In _ _ _
   rintro _ rfl -
   try dsimp only
   refine AL.rp rfl rfl (rp_not rfl rfl) ?_
   refine AL.rp rfl rfl (rp_move rfl rfl) ?_
   (first | (refine AL.noV rfl rfl rfl rfl ?_) | (refine AL.noU rfl ⟨_, rfl, rfl⟩ rfl ?_) | (refine AL.rpy rfl rfl rfl (rp_move rfl rfl) ?_))
   (first | (refine AL.noV rfl rfl rfl rfl ?_) | (refine AL.noU rfl ⟨_, rfl, rfl⟩ rfl ?_) | (refine AL.rpy rfl rfl rfl (rp_index_str Tryd.underlying9 rfl rfl rfl (by first | rfl | omega) (by assumption)) ?_))
   (first | (refine AL.no rfl rfl rfl rfl ?_) | (refine AL.noU rfl ⟨_, rfl, rfl⟩ rfl ?_) | (refine AL.cally (post := ?pc7) rfl rfl (sm_call (args := [_]) ?hc7 ⟨Tryd.func46, rfl, rfl, rfl, rfl⟩ rfl rfl rfl rfl) ?_; (case hc7 => (first | (refine Fn.decT (am_Digit _) ?_; omega) | (refine Fn.decF (am_Digit _) ?_; omega) | exact am_Digit _)); rintro _ rfl -; try dsimp only))
   refine AL.rp rfl rfl (rp_pick rfl rfl rfl) ?_
   refine AL.nil ?_
   try simp only [thenS, S.put, S.newObj, setL, V.cs, List.length_cons, List.length_nil, List.take_succ_cons, List.take_zero, List.drop_succ_cons, List.drop_zero, List.drop_nil, List.nil_append, List.cons_append, List.append_nil, Nat.zero_add, Nat.reduceAdd, List.map_cons, List.map_nil, List.set_cons_zero, List.set_cons_succ]
   refine AW.condF rfl ?_
   refine AW.skip ?_
   try simp only [thenS]
   refine AW.seq ?_
   refine AW.seq ?_
   refine AW.region ?_
   refine AL.rp rfl rfl (rp_assign rfl rfl) ?_
   refine AL.nil ?_
   try simp only [thenS, S.put]
   refine AW.block ?_
   -- left over: 
   refine AW.loop (fun s' => ∃ k : Nat, k ≤ n ∧ wdP l k ∧ s' = ⟨39, [(0, .s s), (3, .i k)], [], []⟩) (fun s' => n - s'.nat 3) ⟨_, ?_, 0, by omega, fun k b hk => absurd hk (by omega), rfl⟩ ?_
   ·exact (Less.of rfl (by repeat (first | exact trivial | refine ⟨⟨_, rfl, Wk.refl _⟩, ?_⟩ | refine ⟨⟨_, rfl, Wk.nil _ _⟩, ?_⟩ | refine ⟨⟨_, rfl, Wk.junk _⟩, ?_⟩)) (by repeat (first | exact trivial | refine ⟨rfl, ?_⟩)) rfl)
   rintro s' ⟨k, hk, hw, rfl⟩
   by_cases hlt : k < n
   ·obtain ⟨b, hb⟩ : ∃ b, l[k]? = some b := ⟨_, List.getElem?_eq_getElem (by omega)⟩
    have hsb : s.data.toList[k]? = some b := by rw [hl]; exact hb
    by_cases h1 : 97 ≤ b.toNat ∧ b.toNat ≤ 122
    ·have hw2 := wdP_snoc hw hb (.inl (.inl h1))
     obtain ⟨h1a, h1b⟩ := h1
     refine AW.seq ?_
     refine AW.seq ?_
     refine AW.region ?_
     refine AL.rp rfl rfl (rp_move rfl rfl) ?_
     refine AL.rp rfl rfl (rp_move rfl rfl) ?_
     (first | (refine AL.rp rfl rfl (rp_len_map Tryd.underlying9 rfl rfl (by assumption)) ?_) | (refine AL.rp rfl rfl (rp_len_own Tryd.underlying9 rfl rfl) ?_) | (refine AL.rp rfl rfl (rp_len_sl Tryd.underlying9 rfl rfl) ?_) | (refine AL.rp rfl rfl (rp_len_nil Tryd.underlying9 rfl rfl) ?_) | (refine AL.rp rfl rfl (rp_len_str Tryd.underlying9 rfl rfl) ?_))
     (first | (refine AL.rp rfl rfl (rp_lssT rfl rfl rfl (by first | assumption | omega | (dsimp only; omega))) ?_) | (refine AL.rp rfl rfl (rp_lssF rfl rfl rfl (by first | assumption | omega | (dsimp only; omega))) ?_) | (refine AL.rp rfl rfl (rp_lss rfl rfl rfl) ?_))
     refine AL.nil ?_
     try simp only [thenS, S.put]
     refine AW.condT rfl ?_
     refine AW.skip ?_
     try simp only [thenS]
     refine AW.seq ?_
     refine AW.block ?_
     refine AW.seq ?_
     refine AW.region ?_
     refine AL.rp rfl rfl (rp_move rfl rfl) ?_
     refine AL.rp rfl rfl (rp_move rfl rfl) ?_
     refine AL.rp rfl rfl (rp_index_str Tryd.underlying9 rfl rfl rfl (by first | rfl | omega) (by assumption)) ?_
     refine AL.rp rfl rfl (rp_assign rfl rfl) ?_
     refine AL.nil ?_
     try simp only [thenS, S.put]
     refine AW.seq ?_
     refine AW.region ?_
     refine AL.rp rfl rfl (rp_move rfl rfl) ?_
     (first | (refine AL.rp rfl rfl (rp_geqT rfl rfl rfl (by first | assumption | omega | (dsimp only; omega))) ?_) | (refine AL.rp rfl rfl (rp_geqF rfl rfl rfl (by first | assumption | omega | (dsimp only; omega))) ?_) | (refine AL.rp rfl rfl (rp_geq rfl rfl rfl) ?_))
     refine AL.rp rfl rfl (rp_move rfl rfl) ?_
     (first | (refine AL.noV rfl rfl rfl rfl ?_) | (refine AL.noU rfl ⟨_, rfl, rfl⟩ rfl ?_) | (refine AL.rpy rfl rfl rfl (rp_move rfl rfl) ?_))
     (first | (refine AL.noV rfl rfl rfl rfl ?_) | (refine AL.noU rfl ⟨_, rfl, rfl⟩ rfl ?_) | (refine AL.rpy rfl rfl rfl (rp_leqT rfl rfl rfl (by first | assumption | omega | (dsimp only; omega))) ?_) | (refine AL.rpy rfl rfl rfl (rp_leqF rfl rfl rfl (by first | assumption | omega | (dsimp only; omega))) ?_) | (refine AL.rpy rfl rfl rfl (rp_leq rfl rfl rfl) ?_))
     refine AL.rp rfl rfl (rp_pick rfl rfl rfl) ?_
     refine AL.rp rfl rfl (rp_not rfl rfl) ?_
     refine AL.rp rfl rfl (rp_move rfl rfl) ?_
     (first | (refine AL.noV rfl rfl rfl rfl ?_) | (refine AL.noU rfl ⟨_, rfl, rfl⟩ rfl ?_) | (refine AL.rpy rfl rfl rfl (rp_move rfl rfl) ?_))
     (first | (refine AL.noV rfl rfl rfl rfl ?_) | (refine AL.noU rfl ⟨_, rfl, rfl⟩ rfl ?_) | (refine AL.rpy rfl rfl rfl (rp_neqT rfl rfl rfl (by first | assumption | omega | (dsimp only; omega))) ?_) | (refine AL.rpy rfl rfl rfl (rp_neqF rfl rfl rfl (by first | assumption | omega | (dsimp only; omega))) ?_) | (refine AL.rpy rfl rfl rfl (rp_neq rfl rfl rfl) ?_))
     refine AL.rp rfl rfl (rp_pick rfl rfl rfl) ?_
     refine AL.rp rfl rfl (rp_move rfl rfl) ?_
     (first | (refine AL.noV rfl rfl rfl rfl ?_) | (refine AL.noU rfl ⟨_, rfl, rfl⟩ rfl ?_) | (refine AL.rpy rfl rfl rfl (rp_move rfl rfl) ?_))
     (first | (refine AL.no rfl rfl rfl rfl ?_) | (refine AL.noU rfl ⟨_, rfl, rfl⟩ rfl ?_) | (refine AL.cally (post := ?pc8) rfl rfl (sm_call (args := [_]) ?hc8 ⟨Tryd.func46, rfl, rfl, rfl, rfl⟩ rfl rfl rfl rfl) ?_; (case hc8 => (first | (refine Fn.decT (am_Digit _) ?_; omega) | (refine Fn.decF (am_Digit _) ?_; omega) | exact am_Digit _)); rintro _ rfl -; try dsimp only))
     (first | (refine AL.noV rfl rfl rfl rfl ?_) | (refine AL.noU rfl ⟨_, rfl, rfl⟩ rfl ?_) | (refine AL.rpy rfl rfl rfl (rp_not rfl rfl) ?_))
     refine AL.rp rfl rfl (rp_pick rfl rfl rfl) ?_
     refine AL.nil ?_
     try simp only [thenS, S.put, S.newObj, setL, V.cs, List.length_cons, List.length_nil, List.take_succ_cons, List.take_zero, List.drop_succ_cons, List.drop_zero, List.drop_nil, List.nil_append, List.cons_append, List.append_nil, Nat.zero_add, Nat.reduceAdd, List.map_cons, List.map_nil, List.set_cons_zero, List.set_cons_succ]
     refine AW.condF rfl ?_
     refine AW.skip ?_
     try simp only [thenS]
     refine AW.region ?_
     refine AL.rp rfl rfl (rp_move rfl rfl) ?_
     refine AL.rp rfl rfl (rp_add rfl rfl rfl (by first | omega | (dsimp only; omega))) ?_
     refine AL.rp rfl rfl (rp_assign rfl rfl) ?_
     refine AL.nil ?_
     try simp only [thenS, S.put]
     -- left over: 
     refine ⟨_, ?_, ⟨k + 1, by omega, hw2, rfl⟩, ?_⟩
     ·exact (Less.of rfl (by repeat (first | exact trivial | refine ⟨⟨_, rfl, Wk.refl _⟩, ?_⟩ | refine ⟨⟨_, rfl, Wk.nil _ _⟩, ?_⟩ | refine ⟨⟨_, rfl, Wk.junk _⟩, ?_⟩)) (by repeat (first | exact trivial | refine ⟨rfl, ?_⟩)) rfl)
     ·simp [S.nat, fnd]; omega
    ·by_cases h2 : b.toNat = 95
     ·have hw2 := wdP_snoc hw hb (.inl (.inr h2))
      have h2a : ¬ 97 ≤ b.toNat := by omega
      have h2b : (b.toNat : Int) = 95 := by omega
      refine AW.seq ?_
      refine AW.seq ?_
      refine AW.region ?_
      refine AL.rp rfl rfl (rp_move rfl rfl) ?_
      refine AL.rp rfl rfl (rp_move rfl rfl) ?_
      (first | (refine AL.rp rfl rfl (rp_len_map Tryd.underlying9 rfl rfl (by assumption)) ?_) | (refine AL.rp rfl rfl (rp_len_own Tryd.underlying9 rfl rfl) ?_) | (refine AL.rp rfl rfl (rp_len_sl Tryd.underlying9 rfl rfl) ?_) | (refine AL.rp rfl rfl (rp_len_nil Tryd.underlying9 rfl rfl) ?_) | (refine AL.rp rfl rfl (rp_len_str Tryd.underlying9 rfl rfl) ?_))
      (first | (refine AL.rp rfl rfl (rp_lssT rfl rfl rfl (by first | assumption | omega | (dsimp only; omega))) ?_) | (refine AL.rp rfl rfl (rp_lssF rfl rfl rfl (by first | assumption | omega | (dsimp only; omega))) ?_) | (refine AL.rp rfl rfl (rp_lss rfl rfl rfl) ?_))
      refine AL.nil ?_
      try simp only [thenS, S.put]
      refine AW.condT rfl ?_
      refine AW.skip ?_
      try simp only [thenS]
      refine AW.seq ?_
      refine AW.block ?_
      refine AW.seq ?_
      refine AW.region ?_
      refine AL.rp rfl rfl (rp_move rfl rfl) ?_
      refine AL.rp rfl rfl (rp_move rfl rfl) ?_
      refine AL.rp rfl rfl (rp_index_str Tryd.underlying9 rfl rfl rfl (by first | rfl | omega) (by assumption)) ?_
      refine AL.rp rfl rfl (rp_assign rfl rfl) ?_
      refine AL.nil ?_
      try simp only [thenS, S.put]
      refine AW.seq ?_
      refine AW.region ?_
      refine AL.rp rfl rfl (rp_move rfl rfl) ?_
      (first | (refine AL.rp rfl rfl (rp_geqT rfl rfl rfl (by first | assumption | omega | (dsimp only; omega))) ?_) | (refine AL.rp rfl rfl (rp_geqF rfl rfl rfl (by first | assumption | omega | (dsimp only; omega))) ?_) | (refine AL.rp rfl rfl (rp_geq rfl rfl rfl) ?_))
      refine AL.rp rfl rfl (rp_move rfl rfl) ?_
      (first | (refine AL.noV rfl rfl rfl rfl ?_) | (refine AL.noU rfl ⟨_, rfl, rfl⟩ rfl ?_) | (refine AL.rpy rfl rfl rfl (rp_move rfl rfl) ?_))
      (first | (refine AL.noV rfl rfl rfl rfl ?_) | (refine AL.noU rfl ⟨_, rfl, rfl⟩ rfl ?_) | (refine AL.rpy rfl rfl rfl (rp_leqT rfl rfl rfl (by first | assumption | omega | (dsimp only; omega))) ?_) | (refine AL.rpy rfl rfl rfl (rp_leqF rfl rfl rfl (by first | assumption | omega | (dsimp only; omega))) ?_) | (refine AL.rpy rfl rfl rfl (rp_leq rfl rfl rfl) ?_))
      refine AL.rp rfl rfl (rp_pick rfl rfl rfl) ?_
      refine AL.rp rfl rfl (rp_not rfl rfl) ?_
      refine AL.rp rfl rfl (rp_move rfl rfl) ?_
      (first | (refine AL.noV rfl rfl rfl rfl ?_) | (refine AL.noU rfl ⟨_, rfl, rfl⟩ rfl ?_) | (refine AL.rpy rfl rfl rfl (rp_move rfl rfl) ?_))
      (first | (refine AL.noV rfl rfl rfl rfl ?_) | (refine AL.noU rfl ⟨_, rfl, rfl⟩ rfl ?_) | (refine AL.rpy rfl rfl rfl (rp_neqT rfl rfl rfl (by first | assumption | omega | (dsimp only; omega))) ?_) | (refine AL.rpy rfl rfl rfl (rp_neqF rfl rfl rfl (by first | assumption | omega | (dsimp only; omega))) ?_) | (refine AL.rpy rfl rfl rfl (rp_neq rfl rfl rfl) ?_))
      refine AL.rp rfl rfl (rp_pick rfl rfl rfl) ?_
      refine AL.rp rfl rfl (rp_move rfl rfl) ?_
      (first | (refine AL.noV rfl rfl rfl rfl ?_) | (refine AL.noU rfl ⟨_, rfl, rfl⟩ rfl ?_) | (refine AL.rpy rfl rfl rfl (rp_move rfl rfl) ?_))
      (first | (refine AL.no rfl rfl rfl rfl ?_) | (refine AL.noU rfl ⟨_, rfl, rfl⟩ rfl ?_) | (refine AL.cally (post := ?pc9) rfl rfl (sm_call (args := [_]) ?hc9 ⟨Tryd.func46, rfl, rfl, rfl, rfl⟩ rfl rfl rfl rfl) ?_; (case hc9 => (first | (refine Fn.decT (am_Digit _) ?_; omega) | (refine Fn.decF (am_Digit _) ?_; omega) | exact am_Digit _)); rintro _ rfl -; try dsimp only))
      (first | (refine AL.noV rfl rfl rfl rfl ?_) | (refine AL.noU rfl ⟨_, rfl, rfl⟩ rfl ?_) | (refine AL.rpy rfl rfl rfl (rp_not rfl rfl) ?_))
      refine AL.rp rfl rfl (rp_pick rfl rfl rfl) ?_
      refine AL.nil ?_
      try simp only [thenS, S.put, S.newObj, setL, V.cs, List.length_cons, List.length_nil, List.take_succ_cons, List.take_zero, List.drop_succ_cons, List.drop_zero, List.drop_nil, List.nil_append, List.cons_append, List.append_nil, Nat.zero_add, Nat.reduceAdd, List.map_cons, List.map_nil, List.set_cons_zero, List.set_cons_succ]
      refine AW.condF rfl ?_
      refine AW.skip ?_
      try simp only [thenS]
      refine AW.region ?_
      refine AL.rp rfl rfl (rp_move rfl rfl) ?_
      refine AL.rp rfl rfl (rp_add rfl rfl rfl (by first | omega | (dsimp only; omega))) ?_
      refine AL.rp rfl rfl (rp_assign rfl rfl) ?_
      refine AL.nil ?_
      try simp only [thenS, S.put]
      -- left over: 
      refine ⟨_, ?_, ⟨k + 1, by omega, hw2, rfl⟩, ?_⟩
      ·exact (Less.of rfl (by repeat (first | exact trivial | refine ⟨⟨_, rfl, Wk.refl _⟩, ?_⟩ | refine ⟨⟨_, rfl, Wk.nil _ _⟩, ?_⟩ | refine ⟨⟨_, rfl, Wk.junk _⟩, ?_⟩)) (by repeat (first | exact trivial | refine ⟨rfl, ?_⟩)) rfl)
      ·simp [S.nat, fnd]; omega
     ·by_cases h3 : 48 ≤ b.toNat ∧ b.toNat ≤ 57
      ·have hk0 : 0 < k := by
        rcases Nat.eq_zero_or_pos k with h0 | h0
        ·subst h0
         rw [hb0] at hb
         cases hb
         exact absurd h3 hd0
        ·exact h0
       have hw2 := wdP_snoc hw hb (.inr ⟨h3, hk0⟩)
       have h3a : ¬ 97 ≤ b.toNat := by omega
       have h3b : ¬ (b.toNat : Int) = 95 := by omega
       refine AW.seq ?_
       refine AW.seq ?_
       refine AW.region ?_
       refine AL.rp rfl rfl (rp_move rfl rfl) ?_
       refine AL.rp rfl rfl (rp_move rfl rfl) ?_
       (first | (refine AL.rp rfl rfl (rp_len_map Tryd.underlying9 rfl rfl (by assumption)) ?_) | (refine AL.rp rfl rfl (rp_len_own Tryd.underlying9 rfl rfl) ?_) | (refine AL.rp rfl rfl (rp_len_sl Tryd.underlying9 rfl rfl) ?_) | (refine AL.rp rfl rfl (rp_len_nil Tryd.underlying9 rfl rfl) ?_) | (refine AL.rp rfl rfl (rp_len_str Tryd.underlying9 rfl rfl) ?_))
       (first | (refine AL.rp rfl rfl (rp_lssT rfl rfl rfl (by first | assumption | omega | (dsimp only; omega))) ?_) | (refine AL.rp rfl rfl (rp_lssF rfl rfl rfl (by first | assumption | omega | (dsimp only; omega))) ?_) | (refine AL.rp rfl rfl (rp_lss rfl rfl rfl) ?_))
       refine AL.nil ?_
       try simp only [thenS, S.put]
       refine AW.condT rfl ?_
       refine AW.skip ?_
       try simp only [thenS]
       refine AW.seq ?_
       refine AW.block ?_
       refine AW.seq ?_
       refine AW.region ?_
       refine AL.rp rfl rfl (rp_move rfl rfl) ?_
       refine AL.rp rfl rfl (rp_move rfl rfl) ?_
       refine AL.rp rfl rfl (rp_index_str Tryd.underlying9 rfl rfl rfl (by first | rfl | omega) (by assumption)) ?_
       refine AL.rp rfl rfl (rp_assign rfl rfl) ?_
       refine AL.nil ?_
       try simp only [thenS, S.put]
       refine AW.seq ?_
       refine AW.region ?_
       refine AL.rp rfl rfl (rp_move rfl rfl) ?_
       (first | (refine AL.rp rfl rfl (rp_geqT rfl rfl rfl (by first | assumption | omega | (dsimp only; omega))) ?_) | (refine AL.rp rfl rfl (rp_geqF rfl rfl rfl (by first | assumption | omega | (dsimp only; omega))) ?_) | (refine AL.rp rfl rfl (rp_geq rfl rfl rfl) ?_))
       refine AL.rp rfl rfl (rp_move rfl rfl) ?_
       (first | (refine AL.noV rfl rfl rfl rfl ?_) | (refine AL.noU rfl ⟨_, rfl, rfl⟩ rfl ?_) | (refine AL.rpy rfl rfl rfl (rp_move rfl rfl) ?_))
       (first | (refine AL.noV rfl rfl rfl rfl ?_) | (refine AL.noU rfl ⟨_, rfl, rfl⟩ rfl ?_) | (refine AL.rpy rfl rfl rfl (rp_leqT rfl rfl rfl (by first | assumption | omega | (dsimp only; omega))) ?_) | (refine AL.rpy rfl rfl rfl (rp_leqF rfl rfl rfl (by first | assumption | omega | (dsimp only; omega))) ?_) | (refine AL.rpy rfl rfl rfl (rp_leq rfl rfl rfl) ?_))
       refine AL.rp rfl rfl (rp_pick rfl rfl rfl) ?_
       refine AL.rp rfl rfl (rp_not rfl rfl) ?_
       refine AL.rp rfl rfl (rp_move rfl rfl) ?_
       (first | (refine AL.noV rfl rfl rfl rfl ?_) | (refine AL.noU rfl ⟨_, rfl, rfl⟩ rfl ?_) | (refine AL.rpy rfl rfl rfl (rp_move rfl rfl) ?_))
       (first | (refine AL.noV rfl rfl rfl rfl ?_) | (refine AL.noU rfl ⟨_, rfl, rfl⟩ rfl ?_) | (refine AL.rpy rfl rfl rfl (rp_neqT rfl rfl rfl (by first | assumption | omega | (dsimp only; omega))) ?_) | (refine AL.rpy rfl rfl rfl (rp_neqF rfl rfl rfl (by first | assumption | omega | (dsimp only; omega))) ?_) | (refine AL.rpy rfl rfl rfl (rp_neq rfl rfl rfl) ?_))
       refine AL.rp rfl rfl (rp_pick rfl rfl rfl) ?_
       refine AL.rp rfl rfl (rp_move rfl rfl) ?_
       (first | (refine AL.noV rfl rfl rfl rfl ?_) | (refine AL.noU rfl ⟨_, rfl, rfl⟩ rfl ?_) | (refine AL.rpy rfl rfl rfl (rp_move rfl rfl) ?_))
       (first | (refine AL.no rfl rfl rfl rfl ?_) | (refine AL.noU rfl ⟨_, rfl, rfl⟩ rfl ?_) | (refine AL.cally (post := ?pc10) rfl rfl (sm_call (args := [_]) ?hc10 ⟨Tryd.func46, rfl, rfl, rfl, rfl⟩ rfl rfl rfl rfl) ?_; (case hc10 => (first | (refine Fn.decT (am_Digit _) ?_; omega) | (refine Fn.decF (am_Digit _) ?_; omega) | exact am_Digit _)); rintro _ rfl -; try dsimp only))
       (first | (refine AL.noV rfl rfl rfl rfl ?_) | (refine AL.noU rfl ⟨_, rfl, rfl⟩ rfl ?_) | (refine AL.rpy rfl rfl rfl (rp_not rfl rfl) ?_))
       refine AL.rp rfl rfl (rp_pick rfl rfl rfl) ?_
       refine AL.nil ?_
       try simp only [thenS, S.put, S.newObj, setL, V.cs, List.length_cons, List.length_nil, List.take_succ_cons, List.take_zero, List.drop_succ_cons, List.drop_zero, List.drop_nil, List.nil_append, List.cons_append, List.append_nil, Nat.zero_add, Nat.reduceAdd, List.map_cons, List.map_nil, List.set_cons_zero, List.set_cons_succ]
       refine AW.condF rfl ?_
       refine AW.skip ?_
       try simp only [thenS]
       refine AW.region ?_
       refine AL.rp rfl rfl (rp_move rfl rfl) ?_
       refine AL.rp rfl rfl (rp_add rfl rfl rfl (by first | omega | (dsimp only; omega))) ?_
       refine AL.rp rfl rfl (rp_assign rfl rfl) ?_
       refine AL.nil ?_
       try simp only [thenS, S.put]
       -- left over: 
       refine ⟨_, ?_, ⟨k + 1, by omega, hw2, rfl⟩, ?_⟩
       ·exact (Less.of rfl (by repeat (first | exact trivial | refine ⟨⟨_, rfl, Wk.refl _⟩, ?_⟩ | refine ⟨⟨_, rfl, Wk.nil _ _⟩, ?_⟩ | refine ⟨⟨_, rfl, Wk.junk _⟩, ?_⟩)) (by repeat (first | exact trivial | refine ⟨rfl, ?_⟩)) rfl)
       ·simp [S.nat, fnd]; omega
      ·have hR : nmB l = false := wdP_no hb (by unfold chLet chDig; omega)
       rw [hR]
       by_cases h4 : 97 ≤ b.toNat
       ·have h4b : ¬ b.toNat ≤ 122 := by omega
        refine AW.seq ?_
        refine AW.seq ?_
        refine AW.region ?_
        refine AL.rp rfl rfl (rp_move rfl rfl) ?_
        refine AL.rp rfl rfl (rp_move rfl rfl) ?_
        (first | (refine AL.rp rfl rfl (rp_len_map Tryd.underlying9 rfl rfl (by assumption)) ?_) | (refine AL.rp rfl rfl (rp_len_own Tryd.underlying9 rfl rfl) ?_) | (refine AL.rp rfl rfl (rp_len_sl Tryd.underlying9 rfl rfl) ?_) | (refine AL.rp rfl rfl (rp_len_nil Tryd.underlying9 rfl rfl) ?_) | (refine AL.rp rfl rfl (rp_len_str Tryd.underlying9 rfl rfl) ?_))
        (first | (refine AL.rp rfl rfl (rp_lssT rfl rfl rfl (by first | assumption | omega | (dsimp only; omega))) ?_) | (refine AL.rp rfl rfl (rp_lssF rfl rfl rfl (by first | assumption | omega | (dsimp only; omega))) ?_) | (refine AL.rp rfl rfl (rp_lss rfl rfl rfl) ?_))
        refine AL.nil ?_
        try simp only [thenS, S.put]
        refine AW.condT rfl ?_
        refine AW.skip ?_
        try simp only [thenS]
        refine AW.seq ?_
        refine AW.block ?_
        refine AW.seq ?_
        refine AW.region ?_
        refine AL.rp rfl rfl (rp_move rfl rfl) ?_
        refine AL.rp rfl rfl (rp_move rfl rfl) ?_
        refine AL.rp rfl rfl (rp_index_str Tryd.underlying9 rfl rfl rfl (by first | rfl | omega) (by assumption)) ?_
        refine AL.rp rfl rfl (rp_assign rfl rfl) ?_
        refine AL.nil ?_
        try simp only [thenS, S.put]
        refine AW.seq ?_
        refine AW.region ?_
        refine AL.rp rfl rfl (rp_move rfl rfl) ?_
        (first | (refine AL.rp rfl rfl (rp_geqT rfl rfl rfl (by first | assumption | omega | (dsimp only; omega))) ?_) | (refine AL.rp rfl rfl (rp_geqF rfl rfl rfl (by first | assumption | omega | (dsimp only; omega))) ?_) | (refine AL.rp rfl rfl (rp_geq rfl rfl rfl) ?_))
        refine AL.rp rfl rfl (rp_move rfl rfl) ?_
        (first | (refine AL.noV rfl rfl rfl rfl ?_) | (refine AL.noU rfl ⟨_, rfl, rfl⟩ rfl ?_) | (refine AL.rpy rfl rfl rfl (rp_move rfl rfl) ?_))
        (first | (refine AL.noV rfl rfl rfl rfl ?_) | (refine AL.noU rfl ⟨_, rfl, rfl⟩ rfl ?_) | (refine AL.rpy rfl rfl rfl (rp_leqT rfl rfl rfl (by first | assumption | omega | (dsimp only; omega))) ?_) | (refine AL.rpy rfl rfl rfl (rp_leqF rfl rfl rfl (by first | assumption | omega | (dsimp only; omega))) ?_) | (refine AL.rpy rfl rfl rfl (rp_leq rfl rfl rfl) ?_))
        refine AL.rp rfl rfl (rp_pick rfl rfl rfl) ?_
        refine AL.rp rfl rfl (rp_not rfl rfl) ?_
        refine AL.rp rfl rfl (rp_move rfl rfl) ?_
        (first | (refine AL.noV rfl rfl rfl rfl ?_) | (refine AL.noU rfl ⟨_, rfl, rfl⟩ rfl ?_) | (refine AL.rpy rfl rfl rfl (rp_move rfl rfl) ?_))
        (first | (refine AL.noV rfl rfl rfl rfl ?_) | (refine AL.noU rfl ⟨_, rfl, rfl⟩ rfl ?_) | (refine AL.rpy rfl rfl rfl (rp_neqT rfl rfl rfl (by first | assumption | omega | (dsimp only; omega))) ?_) | (refine AL.rpy rfl rfl rfl (rp_neqF rfl rfl rfl (by first | assumption | omega | (dsimp only; omega))) ?_) | (refine AL.rpy rfl rfl rfl (rp_neq rfl rfl rfl) ?_))
        refine AL.rp rfl rfl (rp_pick rfl rfl rfl) ?_
        refine AL.rp rfl rfl (rp_move rfl rfl) ?_
        (first | (refine AL.noV rfl rfl rfl rfl ?_) | (refine AL.noU rfl ⟨_, rfl, rfl⟩ rfl ?_) | (refine AL.rpy rfl rfl rfl (rp_move rfl rfl) ?_))
        (first | (refine AL.no rfl rfl rfl rfl ?_) | (refine AL.noU rfl ⟨_, rfl, rfl⟩ rfl ?_) | (refine AL.cally (post := ?pc11) rfl rfl (sm_call (args := [_]) ?hc11 ⟨Tryd.func46, rfl, rfl, rfl, rfl⟩ rfl rfl rfl rfl) ?_; (case hc11 => (first | (refine Fn.decT (am_Digit _) ?_; omega) | (refine Fn.decF (am_Digit _) ?_; omega) | exact am_Digit _)); rintro _ rfl -; try dsimp only))
        (first | (refine AL.noV rfl rfl rfl rfl ?_) | (refine AL.noU rfl ⟨_, rfl, rfl⟩ rfl ?_) | (refine AL.rpy rfl rfl rfl (rp_not rfl rfl) ?_))
        refine AL.rp rfl rfl (rp_pick rfl rfl rfl) ?_
        refine AL.nil ?_
        try simp only [thenS, S.put, S.newObj, setL, V.cs, List.length_cons, List.length_nil, List.take_succ_cons, List.take_zero, List.drop_succ_cons, List.drop_zero, List.drop_nil, List.nil_append, List.cons_append, List.append_nil, Nat.zero_add, Nat.reduceAdd, List.map_cons, List.map_nil, List.set_cons_zero, List.set_cons_succ]
        refine AW.condT rfl ?_
        refine AW.seq ?_
        refine AW.region ?_
        refine AL.rp rfl rfl (rp_assign rfl rfl) ?_
        refine AL.nil ?_
        try simp only [thenS, S.put]
        refine AW.ret ?_
        -- left over: 
        exact ⟨[_], ⟨rfl, trivial⟩, rfl, by simp [tupOf, V.pure, V.has, V.hasL]⟩
       ·skip
        refine AW.seq ?_
        refine AW.seq ?_
        refine AW.region ?_
        refine AL.rp rfl rfl (rp_move rfl rfl) ?_
        refine AL.rp rfl rfl (rp_move rfl rfl) ?_
        (first | (refine AL.rp rfl rfl (rp_len_map Tryd.underlying9 rfl rfl (by assumption)) ?_) | (refine AL.rp rfl rfl (rp_len_own Tryd.underlying9 rfl rfl) ?_) | (refine AL.rp rfl rfl (rp_len_sl Tryd.underlying9 rfl rfl) ?_) | (refine AL.rp rfl rfl (rp_len_nil Tryd.underlying9 rfl rfl) ?_) | (refine AL.rp rfl rfl (rp_len_str Tryd.underlying9 rfl rfl) ?_))
        (first | (refine AL.rp rfl rfl (rp_lssT rfl rfl rfl (by first | assumption | omega | (dsimp only; omega))) ?_) | (refine AL.rp rfl rfl (rp_lssF rfl rfl rfl (by first | assumption | omega | (dsimp only; omega))) ?_) | (refine AL.rp rfl rfl (rp_lss rfl rfl rfl) ?_))
        refine AL.nil ?_
        try simp only [thenS, S.put]
        refine AW.condT rfl ?_
        refine AW.skip ?_
        try simp only [thenS]
        refine AW.seq ?_
        refine AW.block ?_
        refine AW.seq ?_
        refine AW.region ?_
        refine AL.rp rfl rfl (rp_move rfl rfl) ?_
        refine AL.rp rfl rfl (rp_move rfl rfl) ?_
        refine AL.rp rfl rfl (rp_index_str Tryd.underlying9 rfl rfl rfl (by first | rfl | omega) (by assumption)) ?_
        refine AL.rp rfl rfl (rp_assign rfl rfl) ?_
        refine AL.nil ?_
        try simp only [thenS, S.put]
        refine AW.seq ?_
        refine AW.region ?_
        refine AL.rp rfl rfl (rp_move rfl rfl) ?_
        (first | (refine AL.rp rfl rfl (rp_geqT rfl rfl rfl (by first | assumption | omega | (dsimp only; omega))) ?_) | (refine AL.rp rfl rfl (rp_geqF rfl rfl rfl (by first | assumption | omega | (dsimp only; omega))) ?_) | (refine AL.rp rfl rfl (rp_geq rfl rfl rfl) ?_))
        refine AL.rp rfl rfl (rp_move rfl rfl) ?_
        (first | (refine AL.noV rfl rfl rfl rfl ?_) | (refine AL.noU rfl ⟨_, rfl, rfl⟩ rfl ?_) | (refine AL.rpy rfl rfl rfl (rp_move rfl rfl) ?_))
        (first | (refine AL.noV rfl rfl rfl rfl ?_) | (refine AL.noU rfl ⟨_, rfl, rfl⟩ rfl ?_) | (refine AL.rpy rfl rfl rfl (rp_leqT rfl rfl rfl (by first | assumption | omega | (dsimp only; omega))) ?_) | (refine AL.rpy rfl rfl rfl (rp_leqF rfl rfl rfl (by first | assumption | omega | (dsimp only; omega))) ?_) | (refine AL.rpy rfl rfl rfl (rp_leq rfl rfl rfl) ?_))
        refine AL.rp rfl rfl (rp_pick rfl rfl rfl) ?_
        refine AL.rp rfl rfl (rp_not rfl rfl) ?_
        refine AL.rp rfl rfl (rp_move rfl rfl) ?_
        (first | (refine AL.noV rfl rfl rfl rfl ?_) | (refine AL.noU rfl ⟨_, rfl, rfl⟩ rfl ?_) | (refine AL.rpy rfl rfl rfl (rp_move rfl rfl) ?_))
        (first | (refine AL.noV rfl rfl rfl rfl ?_) | (refine AL.noU rfl ⟨_, rfl, rfl⟩ rfl ?_) | (refine AL.rpy rfl rfl rfl (rp_neqT rfl rfl rfl (by first | assumption | omega | (dsimp only; omega))) ?_) | (refine AL.rpy rfl rfl rfl (rp_neqF rfl rfl rfl (by first | assumption | omega | (dsimp only; omega))) ?_) | (refine AL.rpy rfl rfl rfl (rp_neq rfl rfl rfl) ?_))
        refine AL.rp rfl rfl (rp_pick rfl rfl rfl) ?_
        refine AL.rp rfl rfl (rp_move rfl rfl) ?_
        (first | (refine AL.noV rfl rfl rfl rfl ?_) | (refine AL.noU rfl ⟨_, rfl, rfl⟩ rfl ?_) | (refine AL.rpy rfl rfl rfl (rp_move rfl rfl) ?_))
        (first | (refine AL.no rfl rfl rfl rfl ?_) | (refine AL.noU rfl ⟨_, rfl, rfl⟩ rfl ?_) | (refine AL.cally (post := ?pc12) rfl rfl (sm_call (args := [_]) ?hc12 ⟨Tryd.func46, rfl, rfl, rfl, rfl⟩ rfl rfl rfl rfl) ?_; (case hc12 => (first | (refine Fn.decT (am_Digit _) ?_; omega) | (refine Fn.decF (am_Digit _) ?_; omega) | exact am_Digit _)); rintro _ rfl -; try dsimp only))
        (first | (refine AL.noV rfl rfl rfl rfl ?_) | (refine AL.noU rfl ⟨_, rfl, rfl⟩ rfl ?_) | (refine AL.rpy rfl rfl rfl (rp_not rfl rfl) ?_))
        refine AL.rp rfl rfl (rp_pick rfl rfl rfl) ?_
        refine AL.nil ?_
        try simp only [thenS, S.put, S.newObj, setL, V.cs, List.length_cons, List.length_nil, List.take_succ_cons, List.take_zero, List.drop_succ_cons, List.drop_zero, List.drop_nil, List.nil_append, List.cons_append, List.append_nil, Nat.zero_add, Nat.reduceAdd, List.map_cons, List.map_nil, List.set_cons_zero, List.set_cons_succ]
        refine AW.condT rfl ?_
        refine AW.seq ?_
        refine AW.region ?_
        refine AL.rp rfl rfl (rp_assign rfl rfl) ?_
        refine AL.nil ?_
        try simp only [thenS, S.put]
        refine AW.ret ?_
        -- left over: 
        exact ⟨[_], ⟨rfl, trivial⟩, rfl, by simp [tupOf, V.pure, V.has, V.hasL]⟩
   ·obtain rfl : k = n := by omega
    have hR : nmB l = true := wdP_ok (by omega) (by omega) (by rw [hn]; exact hw)
    rw [hR]
    refine AW.seq ?_
    refine AW.seq ?_
    refine AW.region ?_
    refine AL.rp rfl rfl (rp_move rfl rfl) ?_
    refine AL.rp rfl rfl (rp_move rfl rfl) ?_
    (first | (refine AL.rp rfl rfl (rp_len_map Tryd.underlying9 rfl rfl (by assumption)) ?_) | (refine AL.rp rfl rfl (rp_len_own Tryd.underlying9 rfl rfl) ?_) | (refine AL.rp rfl rfl (rp_len_sl Tryd.underlying9 rfl rfl) ?_) | (refine AL.rp rfl rfl (rp_len_nil Tryd.underlying9 rfl rfl) ?_) | (refine AL.rp rfl rfl (rp_len_str Tryd.underlying9 rfl rfl) ?_))
    (first | (refine AL.rp rfl rfl (rp_lssT rfl rfl rfl (by first | assumption | omega | (dsimp only; omega))) ?_) | (refine AL.rp rfl rfl (rp_lssF rfl rfl rfl (by first | assumption | omega | (dsimp only; omega))) ?_) | (refine AL.rp rfl rfl (rp_lss rfl rfl rfl) ?_))
    refine AL.nil ?_
    try simp only [thenS, S.put]
    refine AW.condF rfl ?_
    refine AW.exit ?_
    try simp only [thenS, inBlockS, ↓reduceIte, Nat.reduceEqDiff]
    refine AW.seq ?_
    refine AW.region ?_
    refine AL.rp rfl rfl (rp_assign rfl rfl) ?_
    refine AL.nil ?_
    try simp only [thenS, S.put]
    refine AW.ret ?_
    exact ⟨[_], ⟨rfl, trivial⟩, rfl, by simp [tupOf, V.pure, V.has, V.hasL]⟩
 ·have hR : nmB l = false := nmB_false fun ⟨h1, h2, _⟩ => by omega
  rw [hR]
  refine Fn.intro (n := 39) ⟨Tryd.func48, rfl, rfl, rfl, rfl⟩ (by simp [V.pure, V.has, V.hasL]) (by simp) fun w0 out => ?_
  refine AW.seq ?_
  refine AW.region ?_
  refine AL.rp rfl rfl (rp_assign rfl rfl) ?_
  refine AL.nil ?_
  try simp only [thenS, S.put, enum, List.nil_append, List.cons_append, List.append_nil, Nat.zero_add, Nat.reduceAdd]
  refine AW.seq ?_
  refine AW.seq ?_
  refine AW.region ?_
  refine AL.rp rfl rfl (rp_move rfl rfl) ?_
  (first | (refine AL.rp rfl rfl (rp_len_map Tryd.underlying9 rfl rfl (by assumption)) ?_) | (refine AL.rp rfl rfl (rp_len_own Tryd.underlying9 rfl rfl) ?_) | (refine AL.rp rfl rfl (rp_len_sl Tryd.underlying9 rfl rfl) ?_) | (refine AL.rp rfl rfl (rp_len_nil Tryd.underlying9 rfl rfl) ?_) | (refine AL.rp rfl rfl (rp_len_str Tryd.underlying9 rfl rfl) ?_))
  refine AL.call (post := ?pc13) rfl (sm_call (args := [_, _, _]) ?hc13 ⟨Tryd.func47, rfl, rfl, rfl, rfl⟩ rfl rfl rfl rfl) ?_
  case hc13 => first | (refine Fn.decT (am_In _ _ _) ?_; omega) | (refine Fn.decF (am_In _ _ _) ?_; omega) | exact am_In _ _ _
  rintro _ rfl -
  try dsimp only
  refine AL.rp rfl rfl (rp_not rfl rfl) ?_
  refine AL.rp rfl rfl (rp_move rfl rfl) ?_
  (first | (refine AL.noV rfl rfl rfl rfl ?_) | (refine AL.noU rfl ⟨_, rfl, rfl⟩ rfl ?_) | (refine AL.rpy rfl rfl rfl (rp_move rfl rfl) ?_))
  (first | (refine AL.noV rfl rfl rfl rfl ?_) | (refine AL.noU rfl ⟨_, rfl, rfl⟩ rfl ?_) | (refine AL.rpy rfl rfl rfl (rp_index_str Tryd.underlying9 rfl rfl rfl (by first | rfl | omega) (by assumption)) ?_))
  (first | (refine AL.no rfl rfl rfl rfl ?_) | (refine AL.noU rfl ⟨_, rfl, rfl⟩ rfl ?_) | (refine AL.cally (post := ?pc14) rfl rfl (sm_call (args := [_]) ?hc14 ⟨Tryd.func46, rfl, rfl, rfl, rfl⟩ rfl rfl rfl rfl) ?_; (case hc14 => (first | (refine Fn.decT (am_Digit _) ?_; omega) | (refine Fn.decF (am_Digit _) ?_; omega) | exact am_Digit _)); rintro _ rfl -; try dsimp only))
  refine AL.rp rfl rfl (rp_pick rfl rfl rfl) ?_
  refine AL.nil ?_
  try simp only [thenS, S.put, S.newObj, setL, V.cs, List.length_cons, List.length_nil, List.take_succ_cons, List.take_zero, List.drop_succ_cons, List.drop_zero, List.drop_nil, List.nil_append, List.cons_append, List.append_nil, Nat.zero_add, Nat.reduceAdd, List.map_cons, List.map_nil, List.set_cons_zero, List.set_cons_succ]
  refine AW.condT rfl ?_
  refine AW.seq ?_
  refine AW.region ?_
  refine AL.rp rfl rfl (rp_assign rfl rfl) ?_
  refine AL.nil ?_
  try simp only [thenS, S.put]
  refine AW.ret ?_
  -- left over: 
  exact ⟨[_], ⟨rfl, trivial⟩, rfl, by simp [tupOf, V.pure, V.has, V.hasL]⟩
end Go.Proofs.YtlgnjehfojogmaaDoor
namespace Go.Proofs.YtlgnjehfojogmaaDoor
open Go.RowKit
set_option linter.unusedSimpArgs false
set_option linter.unusedVariables false
set_option maxRecDepth 100000

theorem reps_sc {a : ByteArray} {b : Value} {w : World} {q : Nat → Prop} {g : Nat → Nat × Nat} {zs : List Value} (h : VReps w q g [.s a, .d (.p b)] zs) : zs = [.string a, b] := by
 obtain ⟨h1, h2⟩ := h
 match zs, h1, h2 with
 | [z, y], _, h2 => rw [VRep.p_eq (h2 0 _ z rfl rfl), VRep.p_eq (h2 1 _ y rfl rfl)]
theorem am_IndexByte (l : List UInt8) : Fn Tryd.prog 39 [.s (bs l), .d (.p (.int .u8 10))] (fun v => v = .i (Lib.indexByte l 10)) :=
 Fn.ofCalls (xs := [.string (bs l), .int .u8 10]) (y := .int .i64 (Lib.indexByte l 10)) (fun w => (indexByte_call (bs l) 10 w).mono fun e w' ⟨he, hw⟩ => ⟨by rw [he, bs_list]; rfl, by rw [hw]; exact Below.refl _ _⟩) (fun _ _ _ _ h => reps_sc h) (fun _ _ _ => .d _ _ (.p _)) (by simp [V.pure, V.has, V.hasL])

theorem Less.ofX {s' s : S} (hn : s'.n = s.n) (hT : LT s s'.T) (hH : ∀ r row, fnd s'.H r = some row → fnd s.H r = some row) (hK : s'.K = s.K) : Less s' s :=
 ⟨hn, fun i v h => hT.get i v h, fun r row h => ⟨row, hH r row h, rfl, rfl, rfl, fun j v hv => ⟨v, hv, .refl _⟩⟩, fun j v h => ⟨v, by rw [← hK]; exact h, .refl _⟩⟩
theorem fnd_shadow {α : Type} {k r : Nat} {x y row : α} {l : List (Nat × α)} (h : fnd ((k, x) :: l) r = some row) : fnd ((k, x) :: (k, y) :: l) r = some row := by
 simp only [fnd] at h ⊢
 split at h
 ·rename_i e; rw [if_pos e]; exact h
 ·rename_i e; rw [if_neg e, if_neg e]; exact h
abbrev lnRow (l : List UInt8) : Row := ⟨9, [.s (bs l)], false, 0⟩
def lnLoop (lb N : Nat) (r0 : Loop) (st : LoopState) (j : Option Code) : V := .blk lb N (.loop (lr r0 st j))
def lnDf (db N : Nat) : V := .blk db N (.deferred (some []))
abbrev ylV (lb : Nat) : V := .d (.p (.func (.yield lb) #[] #[]))
/-- How the loop's body may end, in a round of a walk over lines: Jn, Jr of the caller's objects. -/
def QB1 (lb db N : Nat) (r0 : Loop) (ts : List V) (rest : List UInt8) (Jn : List (Nat × Row) → Prop) (s3 : S) : Prop :=
 ∃ s4, Less s4 s3 ∧ s4.K = lnLoop lb N r0 .busy none :: ylV lb :: .ref 790 0 :: lnDf db N :: ts ∧ s4.T = [] ∧ ∃ H, s4.H = (790, lnRow rest) :: H ∧ H.all (fun x => !V.bksL x.2.cells) = true ∧ Jn H
def QB (lb db N : Nat) (r0 : Loop) (ts : List V) (rest : List UInt8) (Jn Jr : List (Nat × Row) → Prop) : Exit → S → Prop
 | .normal, s3 => QB1 lb db N r0 ts rest Jn s3
 | .ret, s3 => QB1 lb db N r0 ts rest Jr s3
 | _, _ => False
/-- How the walk over lines ends. -/
def QLn (lb db N : Nat) (r0 : Loop) (ts : List V) (Jn Jr : List (Nat × Row) → Prop) : Exit → S → Prop
 | .normal, s => ∃ s', Less s' s ∧ ∃ H, s' = ⟨25, [], (790, lnRow []) :: H, lnLoop lb N r0 .ready none :: lnDf db N :: ts⟩ ∧ H.all (fun x => !V.bksL x.2.cells) = true ∧ Jn H
 | .ret, s => ∃ s', Less s' s ∧ ∃ rest H, s' = ⟨25, [], (790, lnRow rest) :: H, lnLoop lb N r0 .done (some .ret) :: lnDf db N :: ts⟩ ∧ H.all (fun x => !V.bksL x.2.cells) = true ∧ Jr H
 | _, _ => False
theorem am_lines {w0 : World} {out : Nat → Prop} {kx1 : List Value} {lb db n0 p : Nat} {r0 : Loop} {l : List Nat} {ts : List V} (J : List UInt8 → List (Nat × Row) → Prop) (Jr : List (Nat × Row) → Prop) {text : List UInt8} {H0 : List (Nat × Row)} (h0 : J text H0) (hne : db ≠ lb)
  (hps : r0.params = #[p]) (hp : p < n0) (hsz : r0.tmps.size = n0) (hrel : ∀ (j i : Nat), l[j]? = some i → ∃ y, r0.tmps[i]? = some y ∧ kx1[j + 1]? = some y)
  (hts : V.bksL ts = false) (hlen : ∀ rem H, J rem H → rem.length ≤ 1000000 ∧ H.all (fun x => !V.bksL x.2.cells) = true)
  (hround : ∀ kx rem H, J rem H → rem ≠ [] → AF (some lb) ⟨Tryd.prog, w0, out, undef :: kx, []⟩ r0.assign (thenS (fun s1 => ∃ K2, s1.K = lnLoop lb w0.heap.size r0 .ready none :: K2 ∧ NoBk lb s1.T s1.H K2 ∧
   AF (some lb) ⟨Tryd.prog, w0, out, undef :: kx, []⟩ r0.body (QB lb db w0.heap.size r0 ts (ln2 rem) (J (ln2 rem)) Jr) ⟨s1.n, s1.T, s1.H, lnLoop lb w0.heap.size r0 .busy none :: K2⟩) (fun _ _ => False))
   ⟨n0, (p, .s (bs (ln1 rem))) :: l.zip ts, (790, lnRow (ln2 rem)) :: H, lnLoop lb w0.heap.size r0 .ready none :: ylV lb :: .ref 790 0 :: lnDf db w0.heap.size :: ts⟩)
  {code : Code} (hcode : Tryd.f38.body = some code) :
  AW ⟨Tryd.prog, w0, out, undef :: kx1, []⟩ code (QLn lb db w0.heap.size r0 ts (J []) Jr) ⟨25, enum 0 [ylV lb, .ref 790 0], (790, lnRow text) :: H0, lnLoop lb w0.heap.size r0 .ready none :: lnDf db w0.heap.size :: ts⟩ := by
 obtain rfl := Option.some.inj (hcode : some _ = some code)
 clear hcode
 obtain ⟨K, hK⟩ : ∃ K, lnLoop lb w0.heap.size r0 .ready none :: lnDf db w0.heap.size :: ts = K := ⟨_, rfl⟩
 simp only [hK]
 simp only [enum]
 refine AW.block ?_
 refine AW.loopN (fun k s' => ∃ rem H, J rem H ∧ k = rem.length ∧ s' = ⟨25, [(0, ylV lb), (1, .ref 790 0)], (790, lnRow rem) :: H, K⟩) ?_ ?_
 ·exact ⟨_, _, (Less.ofX rfl (by repeat (first | exact trivial | refine ⟨⟨_, rfl, Wk.refl _⟩, ?_⟩ | refine ⟨⟨_, rfl, Wk.nil _ _⟩, ?_⟩ | refine ⟨⟨_, rfl, Wk.junk _⟩, ?_⟩)) (fun _ _ h => h) rfl), text, H0, h0, rfl, rfl⟩
 rintro k s' ⟨rem, H, hJ, rfl, rfl⟩
 obtain ⟨hl, hHb⟩ := hlen rem H hJ
 have hbs := bs_size rem
 by_cases hne0 : rem = []
 ·subst hne0
  refine AW.seq ?_
  refine AW.seq ?_
  refine AW.region ?_
  (first | (refine AL.rd rfl rfl (rd_load_ref Tryd.underlying9 rfl rfl rfl rfl rfl rfl) ?_) | (refine AL.rd rfl rfl (rd_load_ad Tryd.underlying9 rfl rfl rfl rfl) ?_) | (refine AL.rd rfl rfl (rd_load_map Tryd.underlying9 rfl rfl rfl rfl rfl rfl (by assumption)) ?_) | (refine AL.rd rfl rfl (rd_load_flat Tryd.underlying9 rfl rfl rfl rfl rfl rfl (fun _ => rfl) (by assumption) rfl) ?_))
  (first | (refine AL.rp rfl rfl (rp_len_map Tryd.underlying9 rfl rfl (by assumption)) ?_) | (refine AL.rp rfl rfl (rp_len_own Tryd.underlying9 rfl rfl) ?_) | (refine AL.rp rfl rfl (rp_len_sl Tryd.underlying9 rfl rfl) ?_) | (refine AL.rp rfl rfl (rp_len_nil Tryd.underlying9 rfl rfl) ?_) | (refine AL.rp rfl rfl (rp_len_str Tryd.underlying9 rfl rfl) ?_))
  (first | (refine AL.rp rfl rfl (rp_gtrT rfl rfl rfl (by first | assumption | omega | (dsimp only; omega))) ?_) | (refine AL.rp rfl rfl (rp_gtrF rfl rfl rfl (by first | assumption | omega | (dsimp only; omega))) ?_) | (refine AL.rp rfl rfl (rp_gtr rfl rfl rfl) ?_))
  refine AL.nil ?_
  try simp only [thenS, S.put]
  refine AW.condF rfl ?_
  refine AW.exit ?_
  try simp only [thenS, inBlockS, ↓reduceIte, Nat.reduceEqDiff]
  subst hK
  exact ⟨⟨25, [], (790, lnRow []) :: H, _⟩, (Less.ofX rfl (by repeat (first | exact trivial | refine ⟨⟨_, rfl, Wk.refl _⟩, ?_⟩ | refine ⟨⟨_, rfl, Wk.nil _ _⟩, ?_⟩ | refine ⟨⟨_, rfl, Wk.junk _⟩, ?_⟩)) (fun _ _ h => h) rfl), H, rfl, hHb, hJ⟩
 ·have hlt := ln2_lt rem hne0
  have hpos : 0 < rem.length := by omega
  refine AW.seq ?_
  refine AW.seq ?_
  refine AW.region ?_
  (first | (refine AL.rd rfl rfl (rd_load_ref Tryd.underlying9 rfl rfl rfl rfl rfl rfl) ?_) | (refine AL.rd rfl rfl (rd_load_ad Tryd.underlying9 rfl rfl rfl rfl) ?_) | (refine AL.rd rfl rfl (rd_load_map Tryd.underlying9 rfl rfl rfl rfl rfl rfl (by assumption)) ?_) | (refine AL.rd rfl rfl (rd_load_flat Tryd.underlying9 rfl rfl rfl rfl rfl rfl (fun _ => rfl) (by assumption) rfl) ?_))
  (first | (refine AL.rp rfl rfl (rp_len_map Tryd.underlying9 rfl rfl (by assumption)) ?_) | (refine AL.rp rfl rfl (rp_len_own Tryd.underlying9 rfl rfl) ?_) | (refine AL.rp rfl rfl (rp_len_sl Tryd.underlying9 rfl rfl) ?_) | (refine AL.rp rfl rfl (rp_len_nil Tryd.underlying9 rfl rfl) ?_) | (refine AL.rp rfl rfl (rp_len_str Tryd.underlying9 rfl rfl) ?_))
  (first | (refine AL.rp rfl rfl (rp_gtrT rfl rfl rfl (by first | assumption | omega | (dsimp only; omega))) ?_) | (refine AL.rp rfl rfl (rp_gtrF rfl rfl rfl (by first | assumption | omega | (dsimp only; omega))) ?_) | (refine AL.rp rfl rfl (rp_gtr rfl rfl rfl) ?_))
  refine AL.nil ?_
  try simp only [thenS, S.put]
  refine AW.condT rfl ?_
  refine AW.skip ?_
  try simp only [thenS]
  refine AW.block ?_
  refine AW.seq ?_
  refine AW.region ?_
  refine AL.rp rfl rfl (rp_assign rfl rfl) ?_
  refine AL.nil ?_
  try simp only [thenS, S.put]
  refine AW.seqc (fun s' => s' = ⟨25, [(0, ylV lb), (1, .ref 790 0), (3, .s (bs (ln1 rem)))], (790, lnRow (ln2 rem)) :: H, K⟩) ?_ ?_
  ·skip
   rcases ln_index rem with ⟨hi, e1, e2⟩ | ⟨i, hi, hk, e1, e2⟩
   ·have h1 := (am_IndexByte rem).eqi hi
    refine AW.seq ?_
    refine AW.region ?_
    (first | (refine AL.rd rfl rfl (rd_load_ref Tryd.underlying9 rfl rfl rfl rfl rfl rfl) ?_) | (refine AL.rd rfl rfl (rd_load_ad Tryd.underlying9 rfl rfl rfl rfl) ?_) | (refine AL.rd rfl rfl (rd_load_map Tryd.underlying9 rfl rfl rfl rfl rfl rfl (by assumption)) ?_) | (refine AL.rd rfl rfl (rd_load_flat Tryd.underlying9 rfl rfl rfl rfl rfl rfl (fun _ => rfl) (by assumption) rfl) ?_))
    refine AL.call (post := ?pc0) rfl (sm_call (args := [_, _]) ?hc0 ⟨Tryd.func39, rfl, rfl, rfl, rfl⟩ rfl rfl rfl rfl) ?_
    case hc0 => exact h1
    rintro _ rfl -
    try dsimp only
    refine AL.rp rfl rfl (rp_assign rfl rfl) ?_
    refine AL.nil ?_
    try simp only [thenS, S.put, S.newObj, setL, V.cs, List.length_cons, List.length_nil, List.take_succ_cons, List.take_zero, List.drop_succ_cons, List.drop_zero, List.drop_nil, List.nil_append, List.cons_append, List.append_nil, Nat.zero_add, Nat.reduceAdd, List.map_cons, List.map_nil, List.set_cons_zero, List.set_cons_succ]
    refine AW.seq ?_
    refine AW.region ?_
    refine AL.rp rfl rfl (rp_move rfl rfl) ?_
    (first | (refine AL.rp rfl rfl (rp_geqT rfl rfl rfl (by first | assumption | omega | (dsimp only; omega))) ?_) | (refine AL.rp rfl rfl (rp_geqF rfl rfl rfl (by first | assumption | omega | (dsimp only; omega))) ?_) | (refine AL.rp rfl rfl (rp_geq rfl rfl rfl) ?_))
    refine AL.nil ?_
    try simp only [thenS, S.put]
    refine AW.condF rfl ?_
    refine AW.region ?_
    (first | (refine AL.rd rfl rfl (rd_load_ref Tryd.underlying9 rfl rfl rfl rfl rfl rfl) ?_) | (refine AL.rd rfl rfl (rd_load_ad Tryd.underlying9 rfl rfl rfl rfl) ?_) | (refine AL.rd rfl rfl (rd_load_map Tryd.underlying9 rfl rfl rfl rfl rfl rfl (by assumption)) ?_) | (refine AL.rd rfl rfl (rd_load_flat Tryd.underlying9 rfl rfl rfl rfl rfl rfl (fun _ => rfl) (by assumption) rfl) ?_))
    refine AL.rp rfl rfl (rp_assign rfl rfl) ?_
    (first | (refine AL.st rfl (st_store_map2 inf9 rfl rfl rfl rfl rfl rfl rfl rfl (by first | assumption | omega)) ?_) | (refine AL.st rfl (st_store inf9 rfl rfl rfl rfl rfl rfl rfl (by first | decide | (simp; done)) rfl) ?_))
    refine AL.nil ?_
    try simp only [thenS, S.put, S.newObj, setL, V.cs, List.length_cons, List.length_nil, List.take_succ_cons, List.take_zero, List.drop_succ_cons, List.drop_zero, List.drop_nil, List.nil_append, List.cons_append, List.append_nil, Nat.zero_add, Nat.reduceAdd, List.map_cons, List.map_nil, List.set_cons_zero, List.set_cons_succ]
    rw [e1, e2]
    refine ⟨_, ?_, rfl⟩
    exact (Less.ofX rfl (by repeat (first | exact trivial | refine ⟨⟨_, rfl, Wk.refl _⟩, ?_⟩ | refine ⟨⟨_, rfl, Wk.nil _ _⟩, ?_⟩ | refine ⟨⟨_, rfl, Wk.junk _⟩, ?_⟩)) (fun _ _ h => fnd_shadow h) rfl)
   ·have h1 := (am_IndexByte rem).eqi hi
    refine AW.seq ?_
    refine AW.region ?_
    (first | (refine AL.rd rfl rfl (rd_load_ref Tryd.underlying9 rfl rfl rfl rfl rfl rfl) ?_) | (refine AL.rd rfl rfl (rd_load_ad Tryd.underlying9 rfl rfl rfl rfl) ?_) | (refine AL.rd rfl rfl (rd_load_map Tryd.underlying9 rfl rfl rfl rfl rfl rfl (by assumption)) ?_) | (refine AL.rd rfl rfl (rd_load_flat Tryd.underlying9 rfl rfl rfl rfl rfl rfl (fun _ => rfl) (by assumption) rfl) ?_))
    refine AL.call (post := ?pc1) rfl (sm_call (args := [_, _]) ?hc1 ⟨Tryd.func39, rfl, rfl, rfl, rfl⟩ rfl rfl rfl rfl) ?_
    case hc1 => exact h1
    rintro _ rfl -
    try dsimp only
    refine AL.rp rfl rfl (rp_assign rfl rfl) ?_
    refine AL.nil ?_
    try simp only [thenS, S.put, S.newObj, setL, V.cs, List.length_cons, List.length_nil, List.take_succ_cons, List.take_zero, List.drop_succ_cons, List.drop_zero, List.drop_nil, List.nil_append, List.cons_append, List.append_nil, Nat.zero_add, Nat.reduceAdd, List.map_cons, List.map_nil, List.set_cons_zero, List.set_cons_succ]
    refine AW.seq ?_
    refine AW.region ?_
    refine AL.rp rfl rfl (rp_move rfl rfl) ?_
    (first | (refine AL.rp rfl rfl (rp_geqT rfl rfl rfl (by first | assumption | omega | (dsimp only; omega))) ?_) | (refine AL.rp rfl rfl (rp_geqF rfl rfl rfl (by first | assumption | omega | (dsimp only; omega))) ?_) | (refine AL.rp rfl rfl (rp_geq rfl rfl rfl) ?_))
    refine AL.nil ?_
    try simp only [thenS, S.put]
    refine AW.condT rfl ?_
    refine AW.draw [(0, true), (1, true), (2, true), (3, true), (4, true), (5, true), (6, true), (7, true), (8, true), (9, false)] (fun i => !([9] : List Nat).contains i) 10 (by kernel_rfl) (by kernel_rfl) rfl (by kernel_rfl) ?_
    (first | (refine AD1.rd rfl rfl rfl (fun _ _ h => h) (rd_load_ref Tryd.underlying9 rfl rfl rfl rfl rfl rfl) ?_) | (refine AD1.rd rfl rfl rfl (fun _ _ h => h) (rd_load_ad Tryd.underlying9 rfl rfl rfl rfl) ?_) | (refine AD1.rd rfl rfl rfl (fun _ _ h => h) (rd_load_map Tryd.underlying9 rfl rfl rfl rfl rfl rfl (by assumption)) ?_) | (refine AD1.rd rfl rfl rfl (fun _ _ h => h) (rd_load_flat Tryd.underlying9 rfl rfl rfl rfl rfl rfl (fun _ => rfl) (by assumption) rfl) ?_))
    refine AD1.rp rfl rfl rfl (fun _ _ h => h) (rp_move rfl rfl) ?_
    refine AD1.rp rfl rfl rfl (fun _ _ h => h) (rp_add rfl rfl rfl (by first | omega | (dsimp only; omega))) ?_
    refine AD1.rd rfl rfl rfl (fun _ _ h => h) ((rp_slice_strh (k := i + 1) Tryd.underlying9 rfl rfl rfl (by omega) (by omega)).rd) ?_
    (first | (refine AD1.rd rfl rfl rfl (fun _ _ h => h) (rd_load_ref Tryd.underlying9 rfl rfl rfl rfl rfl rfl) ?_) | (refine AD1.rd rfl rfl rfl (fun _ _ h => h) (rd_load_ad Tryd.underlying9 rfl rfl rfl rfl) ?_) | (refine AD1.rd rfl rfl rfl (fun _ _ h => h) (rd_load_map Tryd.underlying9 rfl rfl rfl rfl rfl rfl (by assumption)) ?_) | (refine AD1.rd rfl rfl rfl (fun _ _ h => h) (rd_load_flat Tryd.underlying9 rfl rfl rfl rfl rfl rfl (fun _ => rfl) (by assumption) rfl) ?_))
    refine AD1.rp rfl rfl rfl (fun _ _ h => h) (rp_move rfl rfl) ?_
    refine AD1.rp rfl rfl rfl (fun _ _ h => h) (rp_add rfl rfl rfl (by first | omega | (dsimp only; omega))) ?_
    refine AD1.rd rfl rfl rfl (fun _ _ h => h) ((rp_slice_strl (k := i + 1) Tryd.underlying9 rfl rfl rfl (by omega) (by omega)).rd) ?_
    refine AD1.rp rfl rfl rfl (fun _ _ h => h) (rp_assign rfl rfl) ?_
    refine AD1.go ?_
    refine AD2.go ?_
    (first | (refine AD3.st rfl rfl rfl (st_store_map2 inf9 rfl rfl rfl rfl rfl rfl rfl rfl (by first | assumption | omega)) ?_) | (refine AD3.st rfl rfl rfl (st_store inf9 rfl rfl rfl rfl rfl rfl rfl (by first | decide | (simp; done)) rfl) ?_))
    refine AD3.nil ?_
    try simp only [thenS, S.put, S.newObj, setL, V.cs, List.length_cons, List.length_nil, List.take_succ_cons, List.take_zero, List.drop_succ_cons, List.drop_zero, List.drop_nil, List.nil_append, List.cons_append, List.append_nil, Nat.zero_add, Nat.reduceAdd, List.map_cons, List.map_nil, List.set_cons_zero, List.set_cons_succ]
    rw [e1, e2]
    refine ⟨_, ?_, rfl⟩
    exact (Less.ofX rfl (by repeat (first | exact trivial | refine ⟨⟨_, rfl, Wk.refl _⟩, ?_⟩ | refine ⟨⟨_, rfl, Wk.nil _ _⟩, ?_⟩ | refine ⟨⟨_, rfl, Wk.junk _⟩, ?_⟩)) (fun _ _ h => fnd_shadow h) rfl)
  ·rintro s' rfl
   subst hK
   refine AW.seq (AF.aw (AF.regionL ?_))
   refine LF.rp rfl (fun d h => by cases h) rfl (rp_move rfl rfl) ?_
   refine LF.rp rfl (fun d h => by cases h) rfl (rp_move rfl rfl) ?_
   refine LF.yield [0, 1] (l := l) (ts := ts) (ts' := [ylV lb, .ref 790 0]) (n0 := n0) (p := p) rfl rfl rfl rfl hps hp hsz hrel (fun j u h => by simpa using h) rfl rfl fun kx => ?_
   refine (hround kx rem H hJ hne0).mono fun e s1 hq => ?_
   cases e <;> try exact hq
   obtain ⟨K2, k1, k2, k3⟩ := hq
   refine ⟨K2, k1, k2, k3.mono fun e s3 hq => ?_⟩
   have hnb : ∀ H' : List (Nat × Row), H'.all (fun x => !V.bksL x.2.cells) = true → NoBk lb [] ((790, lnRow (ln2 rem)) :: H') (ylV lb :: .ref 790 0 :: lnDf db w0.heap.size :: ts) := by
    intro H' hb
    refine ⟨rfl, by simpa [V.bksL, V.bks] using hb, fun v hv => ?_⟩
    simp only [List.mem_cons] at hv
    rcases hv with rfl | rfl | rfl | hv
    ·exact .inl rfl
    ·exact .inl rfl
    ·exact .inr ⟨_, _, _, rfl, hne⟩
    ·exact .inl (V.bksL_false.1 hts v hv)
   cases e with
   | normal =>
    obtain ⟨⟨n4, T4, H4, K4⟩, hle, hK4, hT4, H', hH', hb, hJ'⟩ := hq
    simp only at hK4 hT4 hH'
    subst hK4 hT4 hH'
    refine ⟨_, hle, _, rfl, hnb H' hb, ?_⟩
    refine LF.rp rfl (fun d h => by cases h) rfl (rp_not rfl rfl) ?_
    refine LF.nil ?_
    try simp only [thenS, S.put]
    refine AW.condF rfl ?_
    refine AW.skip ?_
    try simp only [thenS, inBlockS]
    exact ⟨(ln2 rem).length, ⟨25, [(0, ylV lb), (1, .ref 790 0)], (790, lnRow (ln2 rem)) :: H', _⟩, (Less.ofX rfl (by repeat (first | exact trivial | refine ⟨⟨_, rfl, Wk.refl _⟩, ?_⟩ | refine ⟨⟨_, rfl, Wk.nil _ _⟩, ?_⟩ | refine ⟨⟨_, rfl, Wk.junk _⟩, ?_⟩)) (fun _ _ h => h) rfl), ⟨ln2 rem, H', hJ', rfl, rfl⟩, hlt⟩
   | ret =>
    obtain ⟨⟨n4, T4, H4, K4⟩, hle, hK4, hT4, H', hH', hb, hJ'⟩ := hq
    simp only at hK4 hT4 hH'
    subst hK4 hT4 hH'
    refine ⟨_, hle, _, rfl, hnb H' hb, ?_⟩
    refine LF.rp rfl (fun d h => by cases h) rfl (rp_not rfl rfl) ?_
    refine LF.nil ?_
    try simp only [thenS, S.put]
    refine AW.condT rfl ?_
    refine AW.ret ?_
    try simp only [thenS, inBlockS]
    exact ⟨⟨25, [], (790, lnRow (ln2 rem)) :: H', _⟩, (Less.ofX rfl (by repeat (first | exact trivial | refine ⟨⟨_, rfl, Wk.refl _⟩, ?_⟩ | refine ⟨⟨_, rfl, Wk.nil _ _⟩, ?_⟩ | refine ⟨⟨_, rfl, Wk.junk _⟩, ?_⟩)) (fun _ _ h => h) rfl), ln2 rem, H', rfl, hb, hJ'⟩
   | _ => exact hq.elim
end Go.Proofs.YtlgnjehfojogmaaDoor
namespace Go.Proofs.YtlgnjehfojogmaaDoor
open Go.RowKit
set_option linter.unusedSimpArgs false
set_option linter.unusedVariables false
set_option maxRecDepth 100000

/-- How the body of such a function ends: without the loop's mark, or with it. -/
def RM (P : Program) (w0 : World) (out : Nat → Prop) (rs : List ResultVar) (post : V → Prop) : Exit → Act → World → Prop := fun e a w => (e = .normal ∨ e = .ret) ∧ ((∃ g s, Sim ⟨P, w0, out, [], []⟩ g s a w ∧ QF P rs post .ret s) ∨
  ∃ db g n T H, Sim ⟨P, w0, out, [undef], mk db⟩ g ⟨n, T, H, [lnDf db w0.heap.size]⟩ a w ∧ NoBk db T H [] ∧ QF P rs post .ret ⟨n, T, H, []⟩)
def AX (c : Cx) (code : Code) (R : Exit → Act → World → Prop) (s : S) : Prop := ∀ g a w, Sim c g s a w → code.wp c.P R a w
def QFK (P : Program) (rs : List ResultVar) (post : V → Prop) (db N : Nat) : Exit → S → Prop
  | .normal, s => ∃ T H, Less ⟨s.n, T, H, [lnDf db N]⟩ s ∧ NoBk db T H [] ∧ QF P rs post .ret ⟨s.n, T, H, []⟩
  | .ret, s => ∃ T H, Less ⟨s.n, T, H, [lnDf db N]⟩ s ∧ NoBk db T H [] ∧ QF P rs post .ret ⟨s.n, T, H, []⟩
  | _, _ => False
theorem FnP.introM {Pre : World → Prop} {P : Program} {f : FuncId} {fn : Func} {code : Code} {n : Nat} {rs : List ResultVar} {args : List V} {post : V → Prop} (hf : Is P f fn code n rs) (hp : ∀ v ∈ args, v.pure) (hn : args.length ≤ n)
    (h : ∀ w0 out, Pre w0 → AX ⟨P, w0, out, [], []⟩ code (RM P w0 out rs post) ⟨n, enum 0 args, [], []⟩) : FnP Pre P f args post := by
  intro w out g xs hw hout hx
  have hs : Sim ⟨P, w, out, [], []⟩ g ⟨n, enum 0 args, [], []⟩ { tmps := xs.toArray ++ Array.replicate (fn.ntmps - xs.toArray.size) undef, defers := [] } w := by
    refine ⟨?_, rfl, ?_, by simp [fnd], by simp [fnd], by simp, by simp [fnd], by simp [fnd], hout, Below.refl _ _⟩
    · simp [hf.ntmps, ← hx.1]; omega
    · intro i v hv
      obtain ⟨_, h2⟩ := fnd_enum args 0 i v hv
      simp only [Nat.sub_zero] at h2
      have hi : i < xs.length := by rw [← hx.1]; exact (List.getElem?_eq_some_iff.1 h2).1
      refine ⟨xs[i], ?_, ?_⟩
      · rw [hf.ntmps]
        exact enter_get (List.getElem?_eq_getElem hi) (by rw [← hx.1]; exact hn)
      · refine (hx.2 i v _ h2 (List.getElem?_eq_getElem hi)).mono Cells.rfl (fun b hb _ => ⟨hb, by simp [fnd]⟩) (fun r _ => rfl)
  refine (callsIn_wide (n := 0)).1 (callsIn_of_wp_marks hf.func hf.body trivial (wpIn_wide.2 (wp_mono (h w out hw g _ w hs) fun e a' w' hq => ?_)))
  obtain ⟨he, hq⟩ := hq
  have key : LeavesInM Fence.wide 0 P fn a'.tmps (fun e w' => ∃ v x, e = .returned x ∧ post v ∧ v.pure ∧ VRep w' (fun b => ¬ out b) g v x ∧ Below w.heap.size w w') a'.defers .returning w' := by
    rcases hq with ⟨g', s', h2, vs, k1, k2, k3⟩ | ⟨db, g', n', T, H, h2, hnb, vs, k1, k2, k3⟩
    · rw [h2.defers]
      obtain ⟨x, k4, k5⟩ := run_results hf.results h2 k1
      exact ⟨x, k5, _, x, rfl, k2, k3, (k4.repure k3).mono Cells.rfl (fun b hb _ => hb.1) (fun r _ => rfl), h2.below⟩
    · rw [h2.defers]
      obtain ⟨h3, h4⟩ := h2.headK
      have h5 := h2.tailK.setBlk (ob' := .deferred none) h4 rfl h3 hnb
      obtain ⟨x, k4, k5⟩ := run_results hf.results h5 k1
      exact ⟨by simp, .inl ⟨db, _, rfl, run_takeDeferred h4, x, k5, _, x, rfl, k2, k3, (k4.repure k3).mono Cells.rfl (fun b hb _ => hb.1) (fun r _ => rfl), h5.below⟩⟩
  rcases he with rfl | rfl
  · exact key
  · exact key
theorem AX.early {P : Program} {w0 : World} {out : Nat → Prop} {rs : List ResultVar} {post : V → Prop} {x y : Code} {s : S} (h : AW ⟨P, w0, out, [], []⟩ x (thenS (AX ⟨P, w0, out, [], []⟩ y (RM P w0 out rs post)) (QF P rs post)) s) : AX ⟨P, w0, out, [], []⟩ (.seq x y) (RM P w0 out rs post) s := fun g a w hs =>
  wp_seq (wp_mono (h g a w hs) fun e a' w' hq => by
    obtain ⟨g', s', h1, h2⟩ := hq
    cases e with
    | normal => exact h1 g' a' w' h2
    | ret => exact ⟨.inr rfl, .inl ⟨g', s', h2, h1⟩⟩
    | _ => exact h1.elim)
theorem rm_late {P : Program} {w0 : World} {out : Nat → Prop} {rs : List ResultVar} {post : V → Prop} {db : Nat} {e : Exit} {s : S} {g : Nat → Nat × Nat} {a : Act} {w : World} (h : QFK P rs post db w0.heap.size e s) (hs : Sim ⟨P, w0, out, [undef], mk db⟩ g s a w) : RM P w0 out rs post e a w := by
  cases e with
  | normal => obtain ⟨T, H, h1, h2, h3⟩ := h; exact ⟨.inl rfl, .inr ⟨db, g, _, T, H, hs.less h1, h2, h3⟩⟩
  | ret => obtain ⟨T, H, h1, h2, h3⟩ := h; exact ⟨.inr rfl, .inr ⟨db, g, _, T, H, hs.less h1, h2, h3⟩⟩
  | _ => exact h.elim
theorem AX.lines {w0 : World} {out : Nat → Prop} {rs : List ResultVar} {post : V → Prop} {u y asg body : Code} {id p n : Nat} {go : Operand} {s : S} (l : List Nat) (ts : List V) (J : List UInt8 → List (Nat × Row) → Prop) (Jr : List (Nat × Row) → Prop) (text : List UInt8)
    (h4 : AW ⟨Tryd.prog, w0, out, [], []⟩ u (thenS (fun s' => ∃ s2, Less s2 s' ∧ ∃ T H0, s2 = ⟨n, T, (790, lnRow text) :: H0, []⟩ ∧ S.ev s2 go = some (.fn 38 [.ref 790 0]) ∧ l.map (fun i => fnd T i) = ts.map some ∧ J text H0) (fun _ _ => False)) s)
    (hts : V.bksL ts = false) (hp : p < n) (hll : l.length = ts.length) (hlen : ∀ rem H, J rem H → rem.length ≤ 1000000 ∧ H.all (fun x => !V.bksL x.2.cells) = true)
    (hround : ∀ lb db kx rem H r0, db ≠ lb → r0.assign = asg → r0.body = body → J rem H → rem ≠ [] → AF (some lb) ⟨Tryd.prog, w0, out, undef :: kx, []⟩ asg (thenS (fun s1 => ∃ K2, s1.K = lnLoop lb w0.heap.size r0 .ready none :: K2 ∧ NoBk lb s1.T s1.H K2 ∧
      AF (some lb) ⟨Tryd.prog, w0, out, undef :: kx, []⟩ body (QB lb db w0.heap.size r0 ts (ln2 rem) (J (ln2 rem)) Jr) ⟨s1.n, s1.T, s1.H, lnLoop lb w0.heap.size r0 .busy none :: K2⟩) (fun _ _ => False))
      ⟨n, (p, .s (bs (ln1 rem))) :: l.zip ts, (790, lnRow (ln2 rem)) :: H, lnLoop lb w0.heap.size r0 .ready none :: ylV lb :: .ref 790 0 :: lnDf db w0.heap.size :: ts⟩)
    (hend : ∀ db H, J [] H → AW ⟨Tryd.prog, w0, out, [undef], mk db⟩ y (QFK Tryd.prog rs post db w0.heap.size) ⟨n, l.zip ts, (790, lnRow []) :: H, [lnDf db w0.heap.size]⟩)
    (hret : ∀ db rest H, Jr H → QFK Tryd.prog rs post db w0.heap.size .ret ⟨n, l.zip ts, (790, lnRow rest) :: H, [lnDf db w0.heap.size]⟩) :
    AX ⟨Tryd.prog, w0, out, [], []⟩ (.seq (.seq u (.block id (.rangeFunc go #[p] asg body))) y) (RM Tryd.prog w0 out rs post) s := by
  intro g a w hs
  refine wp_seq (wp_seq (wp_mono (h4 g a w hs) fun e a1 w1 hq => ?_))
  obtain ⟨g1, s1, h1, hs1⟩ := hq
  cases e with
  | normal =>
    obtain ⟨s2, hle, T, H0, rfl, hgo, hlT, hJ⟩ := h1
    have hs2 := hs1.less hle
    have hnbT : ∀ lb db H, db ≠ lb → H.all (fun x => !V.bksL x.2.cells) = true → ∀ rest, NoBk lb (l.zip ts) ((790, lnRow rest) :: H) (lnDf db w0.heap.size :: ts.drop l.length) := by
      intro lb db H hne hH rest
      refine ⟨List.all_eq_true.2 fun x hx => ?_, by simpa [V.bksL, V.bks] using hH, fun v hv => ?_⟩
      · have := V.bksL_false.1 hts x.2 (List.of_mem_zip hx).2
        simp [this]
      · rw [hll, List.drop_length] at hv
        simp only [List.mem_singleton] at hv
        exact .inr ⟨_, _, _, hv, hne⟩
    refine wp_block (wp_mono (range_fn (w0 := w0) (out := out) (R := fun e a w => (e = .normal ∧ y.wp Tryd.prog (RM Tryd.prog w0 out rs post) a w) ∨ (e = .ret ∧ RM Tryd.prog w0 out rs post .ret a w)) ⟨Tryd.func38, rfl, rfl, rfl, rfl⟩ hgo (by decide) l hlT
      (fun j db s' => (j = none ∧ AW ⟨Tryd.prog, w0, out, [undef], mk db⟩ y (QFK Tryd.prog rs post db w0.heap.size) s') ∨ (j = some .ret ∧ QFK Tryd.prog rs post db w0.heap.size .ret s')) ?_ ?_ g1 a1 w1 hs2) fun e a2 w2 hq => ?_)
    · rintro j db s' (⟨rfl, h⟩ | ⟨rfl, h⟩) g a w hs
      · exact .inl ⟨rfl, wp_mono (h g a w hs) fun e a' w' hq => by
          obtain ⟨g', s'', k1, k2⟩ := hq
          exact rm_late k1 k2⟩
      · exact .inr ⟨rfl, rm_late h hs⟩
    · intro lb db kx1 r0 hne hps hsz hasg hbd hrel
      refine AW.mono (am_lines (l := l) (n0 := n) J Jr hJ hne hps hp hsz hrel hts hlen (fun kx rem H hJr hr => ?_) rfl) fun e s3 hq => ?_
      · rw [hasg, hbd]
        exact hround lb db kx rem H r0 hne hasg hbd hJr hr
      · cases e with
        | normal =>
          obtain ⟨s', hle, H, rfl, hb, hJ'⟩ := hq
          refine ⟨.inl rfl, _, hle, none, .ready, ts, rfl, by decide, .inl rfl, hnbT lb db H hne hb _, .inl ⟨rfl, ?_⟩⟩
          rw [hll, List.drop_length]
          exact hend db H hJ'
        | ret =>
          obtain ⟨s', hle, rest, H, rfl, hb, hJ'⟩ := hq
          refine ⟨.inr rfl, _, hle, some .ret, .done, ts, rfl, by decide, .inr rfl, hnbT lb db H hne hb _, .inr ⟨rfl, ?_⟩⟩
          rw [hll, List.drop_length]
          exact hret db rest H hJ'
        | _ => exact hq.elim
    · rcases hq with ⟨rfl, h⟩ | ⟨rfl, h⟩
      · exact h
      · exact h
  | _ => exact h1.elim
end Go.Proofs.YtlgnjehfojogmaaDoor
namespace Go.Proofs.YtlgnjehfojogmaaDoor
open Go.RowKit
set_option linter.unusedSimpArgs false
set_option linter.unusedVariables false

section
variable {c : Cx} {s : S} {Q : Exit → S → Prop} {L : List Oper} {n : Nat} {l l' : Array Bool} {i j k : Nat} {o : Oper}
def AN (c : Cx) (ops : Array Oper) (Q : Exit → S → Prop) (n : Nat) (l : Array Bool) (s : S) : Prop := closedL .any ops l → ∀ g a w, Sim c g s a w → anyN c.P .any ops (QQ c Q) (fun _ => True) (fun _ => true) n l a w
theorem AN.rp {v : V} (hi : L[i]? = some o) (hg : o.guard = none) (hd : dok s o = true) (hp : noP Q) (hok : (Region.noSelect L.toArray && (Region.ready .any L.toArray l).contains i && Region.free .any L.toArray l i) = true) (hl : l.setIfInBounds i true = l') (h : RP c o s v) (hN : AN c L.toArray Q n l' (s.put o.dst v)) : AN c L.toArray Q (n + 1) l s := by
  intro hcl g a w hs
  simp only [Bool.and_eq_true] at hok
  obtain ⟨⟨h1, h2⟩, h3⟩ := hok
  obtain ⟨x, h4, h5⟩ := h g a w hs
  have hr : i ∈ Region.ready .any L.toArray l := by simpa using h2
  have hi' : L.toArray[i]? = some o := by simpa using hi
  subst hl
  exact anyN_early (N := 0) (oi := o) (fun j hj hlt => .inl rfl) hi' (Region.noSelect_spec h1) (QQ_noP hp _ _) n l a w hcl (Region.free_spec hi' h3) hr (.inl ⟨by simp [Region.wanted, hg], fun w' _ => h5 w'⟩) trivial (hN (closed_set hcl hr) g _ w (hs.put o.dst (dok_spec hd) h4))
def BR (c : Cx) (L : List Oper) (Q : Exit → S → Prop) (n : Nat) (l : Array Bool) (s : S) (i : Nat) : Prop := ∃ o, L[i]? = some o ∧ o.guard = none ∧ ∀ g a w, Sim c g s a w → ∀ K : Act → World → Prop,
  (∀ g' s' a' w', AN c L.toArray Q n (l.setIfInBounds i true) s' → Sim c g' s' a' w' → K a' w') → o.wp c.P a w K (QQ c Q)
theorem BR.mk (hi : L[i]? = some o) (hg : o.guard = none) (hl : l.setIfInBounds i true = l') (h : Step c o s (AN c L.toArray Q n l')) : BR c L Q n l s i := ⟨o, hi, hg, fun g a w hs K hK => h g a w hs K _ (by rw [hl] at hK; exact hK)⟩
theorem AN.br {rs : List Nat} (hr : Region.ready .any L.toArray l = rs) (hne : rs ≠ []) (h : ∀ i ∈ rs, BR c L Q n l s i) : AN c L.toArray Q (n + 1) l s := by
  intro hcl g a w hs
  refine ⟨fun h0 => absurd (hr.symm.trans h0) hne, fun j hj => ?_⟩
  obtain ⟨o, hi, hg, hst⟩ := h j (hr ▸ hj)
  exact wpOp_of (by simpa using hi) hg (hst g a w hs _ fun g' s' a' w' hn hs' => ⟨fun _ => trivial, hn (closed_set hcl hj) g' a' w' hs'⟩)
theorem AN.br1 (hr : Region.ready .any L.toArray l = [i]) (h : BR c L Q n l s i) : AN c L.toArray Q (n + 1) l s := AN.br hr (by simp) fun x hx => by
  obtain rfl := List.mem_singleton.1 hx
  exact h
theorem AN.br2 (hr : Region.ready .any L.toArray l = [i, j]) (h : BR c L Q n l s i) (h2 : BR c L Q n l s j) : AN c L.toArray Q (n + 1) l s := AN.br hr (by simp) fun x hx => by
  simp only [List.mem_cons, List.not_mem_nil, or_false] at hx
  rcases hx with rfl | rfl
  · exact h
  · exact h2
theorem AN.nil (hr : Region.ready .any L.toArray l = []) (h : Q .normal s) : AN c L.toArray Q 0 l s := fun hcl g a w hs => ⟨hr, g, s, h, hs⟩
theorem AN.less {s' : S} (h : AN c L.toArray Q n l s') (hl : Less s' s) : AN c L.toArray Q n l s := fun hcl g a w hs => h hcl g a w (hs.less hl)
theorem ST.rd {N : S → Prop} {v : V} (hd : dok s o = true) (h : RD c o s v) (hN : N (s.put o.dst v)) : Step c o s N := by
  intro g a w hs K Q hK
  obtain ⟨x, h1, h2⟩ := h g a w hs
  unfold Oper.wp
  rw [h2 w (Below.refl _ _)]
  exact hK g _ _ _ hN (hs.put o.dst (dok_spec hd) h1)
theorem ST.rp {N : S → Prop} {v : V} (hd : dok s o = true) (h : RP c o s v) (hN : N (s.put o.dst v)) : Step c o s N := ST.rd hd h.rd hN
theorem ST.st {N : S → Prop} {X : S} (h : Step c o s (fun s' => s' = X)) (hN : N X) : Step c o s N := fun g a w hs K Q hK => h g a w hs K Q fun g' s' a' w' h1 h2 => hK g' s' a' w' (by rw [h1]; exact hN) h2
theorem ST.sm {N : S → Prop} {X : S} (h : StepM c o s (fun s' => s' = X)) (hN : N X) : Step c o s N := ST.st h.step hN
theorem ST.call {N : S → Prop} {post : V → Prop} (h : StepM c o s (fun s' => ∃ v, post v ∧ v.pure ∧ s' = s.put o.dst v)) (hN : ∀ v, post v → v.pure → N (s.put o.dst v)) : Step c o s N := fun g a w hs K Q hK => h.step g a w hs K Q fun g' s' a' w' ⟨v, h1, h2, h3⟩ h4 => hK g' s' a' w' (by rw [h3]; exact hN v h1 h2) h4
theorem ST.pc {N : S → Prop} {P : Program} {f : FuncId} {args : List V} {H : List (Nat × Row)} {K : List V} {post : V → List (Nat × Row) → List V → Prop} {fx : Operand} {xs : Array Operand} {tys : Array TypeId} (l : List Nat) {ts : List V} (h : PC P f args H K post) (hg : o.guard = none) (hP : c.P = P) (ho : o.op = .call { callee := .value fx, args := xs, argTypes := tys }) (hfx : s.ev fx = some (.fn f [])) (hargs : xs.toList.map s.ev = args.map some)
    (hts : l.map (fun i => fnd s.T i) = ts.map some) (hH : s.H = H) (hK : ts ++ s.K = K) (hd : dok s o = true) (hN : ∀ v H' K', post v H' K' → N (back s l o.dst v H' K')) : Step c o s N :=
  fun g a w hs K' Q' hK' => h c s o fx xs tys l ts hP ho hfx hargs hts hH hK hd g a w hs K' Q' fun g' s' a' w' ⟨v, H', K2, h1, h2⟩ h3 => hK' g' s' a' w' (by rw [h2]; exact hN _ _ _ h1) h3
theorem AW.drawT {id : Nat} {N : S} (n : Nat) (hm : c.P.follows .mixedOrders = true) (hlen : L.length = n) (hl : Array.replicate n false = l) (h : AN c L.toArray (QJ N) n l s) (hN : Q .normal N) : AW c (.region id L.toArray true) Q s := by
  intro g a w hs
  refine wp_mono (Q := QQ c (QJ N)) ?_ (fun e a w hq => by
    obtain ⟨g', s', h3, h4⟩ := hq
    cases e <;> first | exact ⟨g', N, hN, h4.less h3⟩ | exact h3.elim)
  refine wp_region_any hm ?_
  have hs' : Sim c g s a w.drew := hs.move (Below.drew (Below.refl _ _))
  subst hl hlen
  have h1 := any_of_anyN _ _ _ _ (h (by
    intro j oj _ hl
    rw [Array.getD_eq_getD_getElem?, Array.getElem?_replicate] at hl
    split at hl <;> simp at hl) g a _ hs')
  simpa using h1
end
end Go.Proofs.YtlgnjehfojogmaaDoor
namespace Go.Proofs.YtlgnjehfojogmaaDoor
open Go.RowKit
set_option linter.unusedSimpArgs false
set_option linter.unusedVariables false
set_option maxRecDepth 100000

end Go.Proofs.YtlgnjehfojogmaaDoor
namespace Go.Proofs.YtlgnjehfojogmaaDoor
open Go.Shelf Go.RowKit Go.Sort Go.Lib
end Go.Proofs.YtlgnjehfojogmaaDoor
namespace Go.Proofs.YtlgnjehfojogmaaDoor
open Go.RowKit
open Go.Sort (grow)
set_option linter.unusedSimpArgs false
set_option linter.unusedVariables false
set_option maxRecDepth 100000

end Go.Proofs.YtlgnjehfojogmaaDoor
namespace Go.Proofs.YtlgnjehfojogmaaDoor
open Go.RowKit
set_option linter.unusedSimpArgs false
set_option linter.unusedVariables false
set_option maxRecDepth 100000

theorem cell_lt {w : World} {b o : Nat} {x : Value} (h : w.cell? ⟨b, o, none⟩ = some x) : b < w.heap.size := by
  refine Classical.byContradiction fun hn => ?_
  unfold World.cell? at h
  simp [Array.getElem?_eq_none (Nat.le_of_not_lt hn)] at h
theorem FnP.pre {Pre Pre' : World → Prop} {P : Program} {f : FuncId} {args : List V} {post : V → Prop} (h : FnP Pre P f args post) (hp : ∀ w, Pre' w → Pre w) : FnP Pre' P f args post := fun w out g xs hw => h w out g xs (hp w hw)
theorem am_TrimS (l : List UInt8) (hl : l.length ≤ 1000000) : Fn Tryd.prog 19 [.s (bs l), .s ⟨#[10]⟩] (fun v => v = .s (bs (Lib.trimSuffix l [10]))) :=
  Fn.ofCalls (xs := [.string (bs l), .string ⟨#[10]⟩]) (y := .string (bs (Lib.trimSuffix l [10]))) (fun w => (trimSuffix_call (bs l) ⟨#[10]⟩ w (by rw [bs_size]; omega)).mono fun e w' ⟨he, hw⟩ => ⟨by rw [he, bs_list]; rfl, by rw [hw]; exact Below.refl _ _⟩) (fun _ _ _ _ h => reps_sc h) (fun _ _ _ => .d _ _ (.p _)) (by simp [V.pure, V.has, V.hasL])
end Go.Proofs.YtlgnjehfojogmaaDoor
namespace Go.Proofs.YtlgnjehfojogmaaDoor
open Go.Shelf Go.RowKit
end Go.Proofs.YtlgnjehfojogmaaDoor
namespace Go.Proofs.YtlgnjehfojogmaaDoor
open Go.RowKit
set_option linter.unusedSimpArgs false
set_option linter.unusedVariables false
set_option maxRecDepth 100000

section
variable {c : Cx} {s : S} {o : Oper}
end
end Go.Proofs.YtlgnjehfojogmaaDoor
namespace Go.Proofs.YtlgnjehfojogmaaDoor
open Go.RowKit
set_option linter.unusedSimpArgs false
set_option linter.unusedVariables false
set_option maxRecDepth 100000

section
variable {c : Cx} {s : S} {o : Oper}
end
end Go.Proofs.YtlgnjehfojogmaaDoor
namespace Go.Proofs.YtlgnjehfojogmaaDoor
open Go.RowKit
set_option linter.unusedSimpArgs false
set_option linter.unusedVariables false

section
variable {c : Cx} {s : S} {o : Oper}
end
end Go.Proofs.YtlgnjehfojogmaaDoor
namespace Go.Proofs.YtlgnjehfojogmaaDoor
open Go.RowKit
set_option linter.unusedSimpArgs false
set_option linter.unusedVariables false

section
variable {c : Cx} {s : S} {o : Oper} {g : Nat → Nat × Nat} {a : Act} {w : World}
end
end Go.Proofs.YtlgnjehfojogmaaDoor
namespace Go.Proofs.YtlgnjehfojogmaaDoor
open Go.RowKit
set_option linter.unusedSimpArgs false
set_option linter.unusedVariables false
set_option maxRecDepth 100000

/-- What is asked of a type that holds a Builder, and nothing else. -/
structure BOk (ty : TypeId) : Prop where
 c0 : 0 < Tryd.prog.cellsOf ty
 c2 : Tryd.prog.cellsOf ty ≤ 2
 row : rowAt Tryd.prog (fun x => sameLayout Tryd.prog Tryd.prog.depth x 70) Tryd.prog.depth ty 1 0 1 = true
section
variable {ty : TypeId} {H0 : List (Nat × Row)} {K : List V}
theorem Less.same (s : S) : Less s s := ⟨rfl, fun i v h => ⟨v, h, .refl _⟩, fun k row h => ⟨row, h, rfl, rfl, rfl, fun j v hv => ⟨v, hv, .refl _⟩⟩, fun j v h => ⟨v, h, .refl _⟩⟩
theorem Less.h0 {s : S} {T : List (Nat × V)} {H1 : List (Nat × Row)} (hT : LT s T) (h3 : ∀ k row, fnd H1 k = some row → fnd s.H k = some row) : Less ⟨s.n, T, H1, s.K⟩ s :=
 ⟨rfl, fun i v h => hT.get i v h, fun k row h => ⟨row, h3 k row h, rfl, rfl, rfl, fun j v hv => ⟨v, hv, .refl _⟩⟩, fun j v h => ⟨v, h, .refl _⟩⟩
end
end Go.Proofs.YtlgnjehfojogmaaDoor
namespace Go.Proofs.YtlgnjehfojogmaaDoor
open Go.RowKit (Hid)
set_option linter.unusedSimpArgs false
set_option linter.unusedVariables false

/-- What is asked of the function that Once is handed: called with the lock held, it returns, and leaves the Once as it was. -/
structure OnceFn (f : FuncId) (cap : Value) (b off : Nat) (w : World) (R : World → Prop) : Prop where
  call : Calls Tryd.prog f #[cap] (w.setCell ⟨b, off + 1, none⟩ (.int .i32 1)) fun e w' => e = .returned (.tuple #[]) ∧ R w'
  done : ∀ w', R w' → w'.cell? ⟨b, off, none⟩ = some (.int .u32 0) ∧ w'.frozen? ⟨b, off, none⟩ = false
  lock : ∀ w', R w' → w'.cell? ⟨b, off + 1, none⟩ = some (.int .i32 1) ∧ w'.frozen? ⟨b, off + 1, none⟩ = false

end Go.Proofs.YtlgnjehfojogmaaDoor
namespace Go.Proofs.YtlgnjehfojogmaaDoor
open Go.RowKit
set_option linter.unusedSimpArgs false
set_option linter.unusedVariables false
set_option maxRecDepth 100000

theorem hasL_vd (r : Nat) (l : List D) : V.hasL r (l.map V.d) = false := by simp [V.hasL_false, V.has]
theorem hasL_vdt (r n : Nat) (l : List D) : V.hasL r ((l.map V.d).take n) = false := by
 rw [V.hasL_false]
 intro v hv
 obtain ⟨d, _, rfl⟩ := List.mem_map.1 (List.mem_of_mem_take hv)
 rfl
/-- A function that works on the objects H, keeping K, entered with arguments ars. -/
def EN (P : Program) (f : FuncId) (ars : List V) (H : List (Nat × Row)) (K : List V) (post : Nat → V → List (Nat × Row) → List V → Prop) : Prop :=
 ∃ fn code n rs, Is P f fn code n rs ∧ ars.length ≤ n ∧ ∀ w0 out kx, AW ⟨P, w0, out, kx, []⟩ code (QP P rs (post w0.heap.size)) ⟨n, enum 0 ars, H, K⟩
theorem EN.intro {P : Program} {f : FuncId} {fn : Func} {code : Code} {n : Nat} {rs : List ResultVar} {ars : List V} {H : List (Nat × Row)} {K : List V} {post : Nat → V → List (Nat × Row) → List V → Prop} (hf : Is P f fn code n rs) (hn : ars.length ≤ n)
  (h : ∀ w0 out kx, AW ⟨P, w0, out, kx, []⟩ code (QP P rs (post w0.heap.size)) ⟨n, enum 0 ars, H, K⟩) : EN P f ars H K post := ⟨_, _, _, _, hf, hn, h⟩
def nomap : V := .d (.p (.map none))
end Go.Proofs.YtlgnjehfojogmaaDoor
namespace Go.Proofs.YtlgnjehfojogmaaDoor
open Go.RowKit
set_option linter.unusedSimpArgs false
set_option linter.unusedVariables false
set_option maxRecDepth 100000

end Go.Proofs.YtlgnjehfojogmaaDoor
namespace Go.Proofs.YtlgnjehfojogmaaDoor
open Go.RowKit
set_option linter.unusedSimpArgs false
set_option linter.unusedVariables false
set_option maxRecDepth 100000

end Go.Proofs.YtlgnjehfojogmaaDoor
namespace Go.Proofs.YtlgnjehfojogmaaDoor
open Go.RowKit
set_option linter.unusedSimpArgs false
set_option linter.unusedVariables false
set_option maxRecDepth 100000

end Go.Proofs.YtlgnjehfojogmaaDoor
namespace Go.Proofs.YtlgnjehfojogmaaDoor
open Go.RowKit
set_option linter.unusedSimpArgs false
set_option linter.unusedVariables false
set_option maxRecDepth 100000

/-- The lines of a text, each with its line feed. -/
def lns (l : List UInt8) : List (List UInt8) := if h : l = [] then [] else ln1 l :: lns (ln2 l)
termination_by l.length
decreasing_by exact ln2_lt l h
theorem lns_nil : lns [] = [] := by rw [lns]; simp
theorem lns_cons {l : List UInt8} (h : l ≠ []) : lns l = ln1 l :: lns (ln2 l) := by rw [lns, dif_neg h]
def nmC (l : List Nm) : List V := l.flatMap fun x => [.s x.t, .i x.b]
@[simp] theorem nmC_len (l : List Nm) : (nmC l).length = l.length * 2 := by
 induction l with
 | nil => rfl
 | cons x l ih => simp only [nmC, List.flatMap_cons, List.length_append, List.length_cons, List.length_nil] at ih ⊢; omega
@[simp] theorem hasL_nmC (r : Nat) (l : List Nm) : V.hasL r (nmC l) = false := V.hasL_false.2 fun d hd => by
 obtain ⟨x, _, hx⟩ := List.mem_flatMap.1 hd
 simp only [List.mem_cons, List.not_mem_nil, or_false] at hx
 rcases hx with rfl | rfl <;> rfl
@[simp] theorem has_lnLoop (r lb N : Nat) (r0 : Loop) (st : LoopState) (j : Option Code) : V.has r (lnLoop lb N r0 st j) = false := rfl
@[simp] theorem has_lnDf (r db N : Nat) : V.has r (lnDf db N) = false := rfl
theorem bk_K {lb db N : Nat} (hne : db ≠ lb) {ts : List V} (hts : V.bksL ts = false) : ∀ v ∈ ylV lb :: .ref 790 0 :: lnDf db N :: ts, bkOk lb v := fun v hv => by
 simp only [List.mem_cons] at hv
 rcases hv with rfl | rfl | rfl | hv
 ·exact .inl rfl
 ·exact .inl rfl
 ·exact .inr ⟨_, _, _, rfl, hne⟩
 ·exact .inl (V.bksL_false.1 hts v hv)
theorem trim_len (l : List UInt8) : (Lib.trimSuffix l [10]).length ≤ l.length := by
 unfold Lib.trimSuffix
 split
 ·simp
 ·simp
def nlV : V := .d (.p (.slice none 0 0))
end Go.Proofs.YtlgnjehfojogmaaDoor
namespace Go.Proofs.YtlgnjehfojogmaaDoor
open Go.RowKit
set_option linter.unusedSimpArgs false
set_option linter.unusedVariables false
set_option maxRecDepth 100000

def prt (l : List UInt8) : List (List UInt8) := pcsE 32 l (l.length + 1)
theorem pcs_mem {c : UInt8} {t : List UInt8} : ∀ {i : Nat} {x : List UInt8}, x ∈ pcs c t i → x.length ≤ t.length
 | 0, x, h => by cases h
 | i + 1, x, h => by
  unfold pcs at h
  split at h
  ·rcases List.mem_append.1 h with h | h
   ·exact pcs_mem h
   ·simp only [List.mem_singleton] at h
    subst h
    simp only [List.length_drop, List.length_take]
    omega
  ·exact pcs_mem h
end Go.Proofs.YtlgnjehfojogmaaDoor
namespace Go.Proofs.YtlgnjehfojogmaaDoor
open Go.RowKit
set_option linter.unusedSimpArgs false
set_option linter.unusedVariables false

theorem pcs_pre {c : UInt8} {u x : List UInt8} (hu : c ∉ u) : ∀ i, i ≤ u.length → pcs c (u ++ x) i = [] ∧ frm c (u ++ x) i = 0
  | 0, _ => ⟨rfl, rfl⟩
  | i + 1, h => by
    obtain ⟨h1, h2⟩ := pcs_pre (x := x) hu i (by omega)
    have h3 : ¬ (u ++ x)[i]? = some c := by
      rw [List.getElem?_append_left (by omega)]
      intro h4
      exact hu (List.mem_of_getElem? h4)
    unfold pcs frm
    rw [if_neg h3, if_neg h3]
    exact ⟨h1, h2⟩
theorem pcs_app {c : UInt8} {u r : List UInt8} (hu : c ∉ u) : ∀ j, pcs c (u ++ c :: r) (u.length + 1 + j) = u :: pcs c r j ∧ frm c (u ++ c :: r) (u.length + 1 + j) = u.length + 1 + frm c r j
  | 0 => by
    obtain ⟨h1, h2⟩ := pcs_pre (x := c :: r) hu u.length (Nat.le_refl _)
    have h3 : (u ++ c :: r)[u.length]? = some c := by simp
    refine ⟨?_, ?_⟩
    · show pcs c (u ++ c :: r) (u.length + 1) = [u]
      unfold pcs
      rw [if_pos h3, h1, h2]
      simp
    · show frm c (u ++ c :: r) (u.length + 1) = u.length + 1
      unfold frm
      rw [if_pos h3]
  | j + 1 => by
    obtain ⟨h1, h2⟩ := pcs_app (r := r) hu j
    have h3 : (u ++ c :: r)[u.length + 1 + j]? = r[j]? := by
      rw [List.getElem?_append_right (by omega)]
      rw [show u.length + 1 + j - u.length = j + 1 by omega]
      rfl
    have h4 : ((u ++ c :: r).take (u.length + 1 + j)).drop (u.length + 1 + frm c r j) = (r.take j).drop (frm c r j) := by
      rw [show u ++ c :: r = (u ++ [c]) ++ r by simp, show u.length + 1 + j = (u ++ [c]).length + j by simp, List.take_length_add_append, show u.length + 1 + frm c r j = (u ++ [c]).length + frm c r j by simp, List.drop_length_add_append]
    refine ⟨?_, ?_⟩
    · show pcs c (u ++ c :: r) (u.length + 1 + j + 1) = u :: pcs c r (j + 1)
      show (if (u ++ c :: r)[u.length + 1 + j]? = some c then _ else _) = u :: (if r[j]? = some c then _ else _)
      rw [h3]
      split
      · rw [h1, h2, h4]; rfl
      · exact h1
    · show (if (u ++ c :: r)[u.length + 1 + j]? = some c then u.length + 1 + j + 1 else frm c (u ++ c :: r) (u.length + 1 + j)) = u.length + 1 + (if r[j]? = some c then j + 1 else frm c r j)
      rw [h3]
      split
      · omega
      · exact h2
/-- A text of whole lines. -/
def joinL (c : UInt8) (l : List (List UInt8)) : List UInt8 := l.flatMap (· ++ [c])
/-- The pieces that are closed, put together again. -/
theorem join_pcs {c : UInt8} {t : List UInt8} : ∀ i, i ≤ t.length → joinL c (pcs c t i) = t.take (frm c t i)
  | 0, _ => rfl
  | i + 1, h => by
    have ih := join_pcs (c := c) (t := t) i (by omega)
    have hf := frm_le c t i
    show joinL c (if t[i]? = some c then pcs c t i ++ [(t.take i).drop (frm c t i)] else pcs c t i) = t.take (if t[i]? = some c then i + 1 else frm c t i)
    by_cases e : t[i]? = some c
    · rw [if_pos e, if_pos e]
      unfold joinL at ih ⊢
      rw [List.flatMap_append, ih, List.take_add_one, e]
      simp only [List.flatMap_cons, List.flatMap_nil, List.append_nil, Option.toList]
      rw [← List.append_assoc, show t.take (frm c t i) = (t.take i).take (frm c t i) by rw [List.take_take, Nat.min_eq_left hf], List.take_append_drop]
    · rw [if_neg e, if_neg e]
      exact ih
theorem frm_no {c : UInt8} {t : List UInt8} : ∀ i k, frm c t i ≤ k → k < i → t[k]? ≠ some c
  | 0, k, _, h => absurd h (by omega)
  | i + 1, k, h, hk => by
    have hs : frm c t (i + 1) = if t[i]? = some c then i + 1 else frm c t i := rfl
    rw [hs] at h
    by_cases e : t[i]? = some c
    · rw [if_pos e] at h; omega
    · rw [if_neg e] at h
      by_cases hki : k = i
      · subst hki; exact e
      · exact frm_no i k h (by omega)
theorem pcs_no {c : UInt8} {t : List UInt8} : ∀ i, ∀ u ∈ pcs c t i, c ∉ u
  | 0, u, h => by cases h
  | i + 1, u, h => by
    have hs : pcs c t (i + 1) = if t[i]? = some c then pcs c t i ++ [(t.take i).drop (frm c t i)] else pcs c t i := rfl
    rw [hs] at h
    by_cases e : t[i]? = some c
    · rw [if_pos e] at h
      rcases List.mem_append.1 h with h | h
      · exact pcs_no i u h
      · simp only [List.mem_singleton] at h
        subst h
        intro hc
        obtain ⟨k, hk⟩ := List.getElem?_of_mem hc
        rw [List.getElem?_drop, List.getElem?_take] at hk
        split at hk
        · exact frm_no i _ (Nat.le_add_right _ _) (by assumption) hk
        · cases hk
    · rw [if_neg e] at h
      exact pcs_no i u h
theorem pcsE_pre {c : UInt8} {t : List UInt8} : ∀ i, i ≤ t.length → pcsE c t i = pcs c t i ∧ frmE c t i = frm c t i
  | 0, _ => ⟨rfl, rfl⟩
  | i + 1, h => by
    obtain ⟨h1, h2⟩ := pcsE_pre (c := c) (t := t) i (by omega)
    have hne : ¬ i = t.length := by omega
    have e1 : pcsE c t (i + 1) = if i = t.length ∨ t[i]? = some c then pcsE c t i ++ [(t.take i).drop (frmE c t i)] else pcsE c t i := rfl
    have e2 : frmE c t (i + 1) = if i = t.length ∨ t[i]? = some c then i + 1 else frmE c t i := rfl
    have e3 : pcs c t (i + 1) = if t[i]? = some c then pcs c t i ++ [(t.take i).drop (frm c t i)] else pcs c t i := rfl
    have e4 : frm c t (i + 1) = if t[i]? = some c then i + 1 else frm c t i := rfl
    rw [e1, e2, e3, e4, h1, h2]
    by_cases e : t[i]? = some c
    · rw [if_pos e, if_pos e, if_pos (.inr e), if_pos (.inr e)]
      exact ⟨rfl, rfl⟩
    · have e' : ¬ (i = t.length ∨ t[i]? = some c) := fun h => h.elim hne e
      rw [if_neg e, if_neg e, if_neg e', if_neg e']
      exact ⟨rfl, rfl⟩
theorem pcsE_end (c : UInt8) (t : List UInt8) : pcsE c t (t.length + 1) = pcs c t t.length ++ [t.drop (frm c t t.length)] := by
  obtain ⟨h1, h2⟩ := pcsE_pre (c := c) (t := t) t.length (Nat.le_refl _)
  have e1 : pcsE c t (t.length + 1) = if t.length = t.length ∨ t[t.length]? = some c then pcsE c t t.length ++ [(t.take t.length).drop (frmE c t t.length)] else pcsE c t t.length := rfl
  rw [e1, if_pos (.inl rfl), h1, h2, List.take_length]
theorem ofNat_toNat {v : Nat} (h : v < 10) : (UInt8.ofNat (48 + v)).toNat = 48 + v := by
  simp only [UInt8.toNat_ofNat']
  omega
theorem nmB_byte {l : List UInt8} (h : nmB l = true) {b : UInt8} (hb : b ∈ l) : b.toNat ≠ 10 ∧ b.toNat ≠ 32 := by
  have hp : nmP l := Classical.byContradiction fun hn => by rw [nmB_false hn] at h; cases h
  obtain ⟨k, hk⟩ := List.getElem?_of_mem hb
  rcases hp.2.2 k b hk with h1 | ⟨h1, _⟩
  · unfold chLet at h1; omega
  · unfold chDig at h1; omega
theorem idx_no {c : UInt8} {q : List UInt8} : ∀ {p : List UInt8}, c ∉ p → Lib.indexByte (p ++ c :: q) c = p.length
  | [], _ => by simp [Lib.indexByte]
  | b :: p, h => by
    have ih := idx_no (q := q) (p := p) fun hm => h (List.mem_cons_of_mem _ hm)
    have hb : (b == c) = false := by
      rw [beq_eq_false_iff_ne]
      rintro rfl
      exact h List.mem_cons_self
    have hn : ¬ ((p.length : Int) = -1) := by omega
    simp [Lib.indexByte, hb, ih, hn]
theorem trim_at (d : List UInt8) : Lib.trimSuffix (d ++ [10]) [10] = d := by
  unfold Lib.trimSuffix Lib.hasSuffix
  rw [if_pos (List.isSuffixOf_iff_suffix.2 ⟨d, rfl⟩)]
  simp
theorem ln_at {r : List UInt8} : ∀ {u : List UInt8}, (10 : UInt8) ∉ u → ln1 (u ++ 10 :: r) = u ++ [10] ∧ ln2 (u ++ 10 :: r) = r
  | [], _ => ⟨by simp [ln1], by simp [ln2]⟩
  | b :: u, h => by
    obtain ⟨h1, h2⟩ := ln_at (r := r) (u := u) fun hm => h (List.mem_cons_of_mem _ hm)
    have hb : ¬ b = 10 := by
      rintro rfl
      exact h List.mem_cons_self
    rw [List.cons_append]
    unfold ln1 ln2
    rw [if_neg hb, if_neg hb, h1, h2]
    exact ⟨rfl, rfl⟩
theorem lns_join : ∀ {l : List (List UInt8)}, (∀ u ∈ l, (10 : UInt8) ∉ u) → lns (joinL 10 l) = l.map (· ++ [10])
  | [], _ => lns_nil
  | u :: l, h => by
    have e : joinL 10 (u :: l) = u ++ 10 :: joinL 10 l := by simp [joinL]
    obtain ⟨h1, h2⟩ := ln_at (r := joinL 10 l) (h u List.mem_cons_self)
    rw [e, lns_cons (by simp), h1, h2, lns_join fun v hv => h v (List.mem_cons_of_mem _ hv)]
    rfl
end Go.Proofs.YtlgnjehfojogmaaDoor
namespace Go.Proofs.YtlgnjehfojogmaaDoor
open Go.Shelf Go.RowKit Go.Lib
def laysSpl_ren : Go.Shelf.Ren := ⟨fun | 146 => 49 | 221 => 77 | 268 => 93 | 138 => 94 | 143 => 95 | 195 => 113 | 197 => 114 | 218 => 115 | 219 => 67 | 260 => 129 | 217 => 66 | 225 => 84 | 224 => 85 | 267 => 86 | 266 => 83 | 314 => 108 | n => n, fun | 9 => 9 | 31 => 53 | 3 => 3 | 4 => 4 | 0 => 0 | 105 => 167 | 21 => 21 | 5 => 5 | 46 => 135 | 119 => 184 | 139 => 187 | 138 => 186 | 146 => 159 | 51 => 116 | n => n, fun | 1 => 1 | 3 => 5 | 4 => 6 | n => n⟩
theorem laysSpl : Go.Proofs.Lays.n146 Tryd.prog laysSpl_ren := {
  mixed := by kernel_rfl
  f138 := Tryd.func94.trans (congrArg some (by kernel_rfl))
  f143 := Tryd.func95.trans (congrArg some (by kernel_rfl))
  f146 := Tryd.func49.trans (congrArg some (by kernel_rfl))
  f195 := Tryd.func113.trans (congrArg some (by kernel_rfl))
  f197 := Tryd.func114.trans (congrArg some (by kernel_rfl))
  f217 := Tryd.func66.trans (congrArg some (by kernel_rfl))
  f218 := Tryd.func115.trans (congrArg some (by kernel_rfl))
  f219 := Tryd.func67.trans (congrArg some (by kernel_rfl))
  f221 := Tryd.func77.trans (congrArg some (by kernel_rfl))
  f224 := Tryd.func85.trans (congrArg some (by kernel_rfl))
  f225 := Tryd.func84.trans (congrArg some (by kernel_rfl))
  f260 := Tryd.func129.trans (congrArg some (by kernel_rfl))
  f266 := Tryd.func83.trans (congrArg some (by kernel_rfl))
  f267 := Tryd.func86.trans (congrArg some (by kernel_rfl))
  f268 := Tryd.func93.trans (congrArg some (by kernel_rfl))
  f314 := Tryd.func108.trans (congrArg some (by kernel_rfl))
  t0 := Tryd.underlying0
  a0 := Tryd.isAgg0
  z0 := Tryd.sizeOf0
  v0 := Tryd.zeroValue0
  t3 := Tryd.underlying3
  a3 := Tryd.isAgg3
  z3 := Tryd.sizeOf3
  v3 := Tryd.zeroValue3
  t4 := Tryd.underlying4
  a4 := Tryd.isAgg4
  z4 := Tryd.sizeOf4
  v4 := Tryd.zeroValue4
  t5 := Tryd.underlying5
  a5 := Tryd.isAgg5
  z5 := Tryd.sizeOf5
  v5 := Tryd.zeroValue5
  t9 := Tryd.underlying9
  a9 := Tryd.isAgg9
  z9 := Tryd.sizeOf9
  v9 := Tryd.zeroValue9
  t21 := Tryd.underlying21
  a21 := Tryd.isAgg21
  z21 := Tryd.sizeOf21
  v21 := Tryd.zeroValue21
  t31 := Tryd.underlying53
  a31 := Tryd.isAgg53
  z31 := Tryd.sizeOf53
  v31 := Tryd.zeroValue53
  t46 := Tryd.underlying135
  a46 := Tryd.isAgg135
  z46 := Tryd.sizeOf135
  v46 := Tryd.zeroValue135
  t51 := Tryd.underlying116
  a51 := Tryd.isAgg116
  z51 := Tryd.sizeOf116
  v51 := Tryd.zeroValue116
  t105 := Tryd.underlying167
  a105 := Tryd.isAgg167
  z105 := Tryd.sizeOf167
  v105 := Tryd.zeroValue167
  t119 := Tryd.underlying184
  a119 := Tryd.isAgg184
  z119 := Tryd.sizeOf184
  t138 := Tryd.underlying186
  a138 := Tryd.isAgg186
  z138 := Tryd.sizeOf186
  v138 := Tryd.zeroValue186
  t139 := Tryd.underlying187
  a139 := Tryd.isAgg187
  z139 := Tryd.sizeOf187
  v139 := Tryd.zeroValue187
  t146 := Tryd.underlying159
  a146 := Tryd.isAgg159
  z146 := Tryd.sizeOf159
  v146 := Tryd.zeroValue159
  g1 := by kernel_rfl
  g3 := by kernel_rfl
  g4 := by kernel_rfl }
theorem split_call (s sep : ByteArray) (m : Int) (w : World) (hs : s.size < 4294967281) (hm : w.cell? ⟨1, 0, none⟩ = some (.int .i64 m)) (h1 : 1 ≤ sep.size) :
    Calls Tryd.prog 49 #[.string s, .string sep] w fun e w' =>
      e = .returned (.slice (some ⟨w.heap.size, 0, none⟩) (Lib.countB s sep + 1) (Lib.countB s sep + 1)) ∧ w' = w.alloc (.cells ((Lib.splitB sep 0 (Lib.countB s sep) s).map Value.string).toArray 9) := Any.strings_Split laysSpl (by kernel_rfl) s sep m w hs hm h1
end Go.Proofs.YtlgnjehfojogmaaDoor
namespace Go.Proofs.YtlgnjehfojogmaaDoor
open Go.RowKit
set_option linter.unusedSimpArgs false
set_option linter.unusedVariables false

theorem prt_one {p : List UInt8} (hp : (32 : UInt8) ∉ p) : prt p = [p] := by
  unfold prt
  rw [pcsE_end]
  obtain ⟨h1, h2⟩ := pcs_pre (c := 32) (u := p) (x := []) hp p.length (Nat.le_refl _)
  rw [List.append_nil] at h1 h2
  rw [h1, h2]
  rfl
theorem prt_cons {p r : List UInt8} (hp : (32 : UInt8) ∉ p) : prt (p ++ 32 :: r) = p :: prt r := by
  unfold prt
  rw [pcsE_end, pcsE_end]
  obtain ⟨h1, h2⟩ := pcs_app (c := 32) (u := p) (r := r) hp r.length
  have el : (p ++ 32 :: r).length = p.length + 1 + r.length := by simp; omega
  rw [el, h1, h2, show p ++ 32 :: r = (p ++ [32]) ++ r by simp, show p.length + 1 + frm 32 r r.length = (p ++ [(32 : UInt8)]).length + frm 32 r r.length by simp, List.drop_length_add_append]
  rfl
theorem idx_none {c : UInt8} : ∀ {p : List UInt8}, c ∉ p → Lib.indexByte p c = -1
  | [], _ => rfl
  | b :: p, h => by
    have ih := idx_none (p := p) fun hm => h (List.mem_cons_of_mem _ hm)
    have hb : (b == c) = false := by
      rw [beq_eq_false_iff_ne]
      rintro rfl
      exact h List.mem_cons_self
    simp [Lib.indexByte, hb, ih]
theorem first_at {c : UInt8} : ∀ {l : List UInt8}, c ∈ l → ∃ p r, l = p ++ c :: r ∧ c ∉ p
  | b :: l, h => by
    by_cases hb : b = c
    · exact ⟨[], l, by rw [hb]; rfl, by simp⟩
    · rcases List.mem_cons.1 h with h | h
      · exact absurd h.symm hb
      · obtain ⟨p, r, h1, h2⟩ := first_at h
        refine ⟨b :: p, r, by rw [h1]; rfl, fun hm => ?_⟩
        rcases List.mem_cons.1 hm with hm | hm
        · exact hb hm.symm
        · exact h2 hm
theorem indexB_at (l : List UInt8) : Lib.indexB (bs l) ⟨#[32]⟩ = Lib.indexByte l 32 := by
  show Lib.index (bs l).data.toList [32] = _
  rw [Lib.index_one, bs_list]
theorem split_prt : ∀ (n : Nat) (l : List UInt8), l.length ≤ n → Lib.splitB ⟨#[32]⟩ 0 (Lib.countB (bs l) ⟨#[32]⟩) (bs l) = (prt l).map bs := by
  intro n
  induction n with
  | zero =>
    intro l h
    obtain rfl : l = [] := List.length_eq_zero_iff.1 (by omega)
    rw [Lib.splitB_miss _ _ _ _ ((indexB_at []).trans (idx_none (by simp))), prt_one (by simp)]
    rfl
  | succ n ih =>
    intro l h
    by_cases hm : (32 : UInt8) ∈ l
    · obtain ⟨p, r, rfl, hp⟩ := first_at hm
      have hi : Lib.indexB (bs (p ++ 32 :: r)) ⟨#[32]⟩ = (p.length : Nat) := (indexB_at _).trans (idx_no hp)
      have hs1 : (⟨#[32]⟩ : ByteArray).size = 1 := rfl
      have e1 : (bs (p ++ 32 :: r)).extract (p.length + 1) (bs (p ++ 32 :: r)).size = bs r := by
        rw [bs_drop, show p ++ 32 :: r = (p ++ [32]) ++ r by simp, show p.length + 1 = (p ++ [(32 : UInt8)]).length by simp, List.drop_left]
      rw [Lib.countB_hit (bs (p ++ 32 :: r)) ⟨#[32]⟩ p.length (Nat.le_refl 1) hi, hs1, e1, Nat.add_comm 1, Lib.splitB_hit _ _ _ _ p.length hi, hs1, e1, ih r (by simp at h; omega), prt_cons hp, Nat.add_zero, bs_take, List.take_left]
      rfl
    · rw [Lib.splitB_miss _ _ _ _ ((indexB_at l).trans (idx_none hm)), prt_one hm]
      rfl
def preM (w : World) : Prop := ∃ m : Int, w.cell? ⟨1, 0, none⟩ = some (.int .i64 m)
theorem preM_kept : Kept preM := fun w w' hb ⟨m, h⟩ => ⟨m, (hb.cell (p := ⟨1, 0, none⟩) (cell_lt h)).trans h⟩
theorem prt_len (l : List UInt8) : (prt l).length ≤ l.length + 1 := pcsE_len 32 l _
theorem prt_ne (l : List UInt8) : ∃ w0 r, prt l = w0 :: r := by
  have h := pcsE_end 32 l
  unfold prt
  rw [h]
  cases pcs 32 l l.length with
  | nil => exact ⟨_, _, rfl⟩
  | cons a b => exact ⟨a, _, rfl⟩
theorem am_Split (l : List UInt8) (hl : l.length ≤ 1000000) : FnP preM Tryd.prog 49 [.s (bs l), .s ⟨#[32]⟩] (fun v => v = .d (strsD (prt l))) := by
  rintro w out g xs ⟨m, hm⟩ hlow hx
  obtain ⟨h1, h2⟩ := hx
  obtain rfl : xs = [.string (bs l), .string ⟨#[32]⟩] := by
    match xs, h1, h2 with
    | [x, y], _, h2 => rw [VRep.p_eq (h2 0 _ x rfl rfl), VRep.p_eq (h2 1 _ y rfl rfl)]
  have hc := split_call (bs l) ⟨#[32]⟩ m w (by rw [bs_size]; omega) hm (Nat.le_refl 1)
  have hlen := Lib.splitB_all ⟨#[32]⟩ (Nat.le_refl 1) 0 _ (bs l) rfl
  rw [split_prt _ l (Nat.le_refl _)] at hc hlen
  rw [← hlen, List.length_map, List.map_map] at hc
  refine hc.mono fun e w' ⟨he, hw⟩ => ⟨_, _, he, rfl, by simp [V.pure, V.has, V.hasL], ?_, by rw [hw]; exact (Below.refl _ _).alloc (Nat.le_refl _) _⟩
  have hn := prt_len l
  have key := DRep.sl (w := w') (q := fun b => ¬ out b) 1 16 ((prt l).map fun b => [D.p (.string (bs b))]) (some ⟨w.heap.size, 0, none⟩) (prt l).length w.heap.size 0 (fun i _ => .string (bs ((prt l)[i]?.getD []))) (by simp) (fun _ => ⟨rfl, fun h => Nat.lt_irrefl _ (hlow _ h), by rw [hw]; simp⟩) (by simp; omega) (fun i j row u hi hj => ?_) (fun i j row u hi hj => ?_)
  · unfold strsD
    rw [List.length_map] at key
    exact .d _ _ key
  · rw [List.getElem?_map] at hi
    cases hp : (prt l)[i]? with
    | none => rw [hp] at hi; cases hi
    | some x =>
      rw [hp] at hi
      simp only [Option.map_some, Option.some.injEq] at hi
      subst hi
      match j, hj with
      | 0, hj =>
        have hnew := World.alloc_heap_new w (.cells ((prt l).map (Value.string ∘ bs)).toArray 9)
        rw [hw]
        unfold World.cell?
        simp only
        rw [hnew]
        simp [hp]
  · rw [List.getElem?_map] at hi
    cases hp : (prt l)[i]? with
    | none => rw [hp] at hi; cases hi
    | some x =>
      rw [hp] at hi
      simp only [Option.map_some, Option.some.injEq] at hi
      subst hi
      match j, hj with
      | 0, hj =>
        simp only [List.getElem?_cons_zero, Option.some.injEq] at hj
        subst hj
        exact .p _
end Go.Proofs.YtlgnjehfojogmaaDoor
