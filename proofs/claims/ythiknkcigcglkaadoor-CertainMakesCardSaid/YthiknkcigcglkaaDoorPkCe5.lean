/- Part 5 of what the law CertainMakes rests on. -/
import Derived.Lib.UnsafeStr
import Derived.Lib.ItoaNum
import Derived.Shelf.Strconv.Itoa3
import Derived.Test.YthiknkcigcglkaaDoorProg
import Derived.Lib.AtoiTie
import Derived.Lib.Atoi
import Derived.Test.YthiknkcigcglkaaDoorPkCe1
import Derived.Test.YthiknkcigcglkaaDoorPkCe2
import Derived.Test.YthiknkcigcglkaaDoorPkCe3
import Derived.Test.YthiknkcigcglkaaDoorPkCe4
namespace Go.Proofs.YthiknkcigcglkaaDoor
open Go.RowKit
set_option linter.unusedSimpArgs false
set_option linter.unusedVariables false
set_option maxRecDepth 100000
set_option maxHeartbeats 8000000
open Go.Shelf Go.RowKit Go.Sort Go.Lib
open Go.Sort (grow)
section
variable {c : Cx} {s : S} {o : Oper} {g : Nat → Nat × Nat} {a : Act} {w : World}
theorem rp_sliceData {x : Operand} {t : TypeId} {r sz n : Nat} (ho : o.op = .call { callee := .builtin .unsafeSliceData, args := #[x], argTypes := #[t] }) (hx : s.ev x = some (.own r sz n false)) (hn : 0 < n) : RP c o s (.ref r 0) := fun g a w hs => by
  have hx' : ∃ cap, a.eval x = .slice (some ⟨(g r).1, 0, none⟩) n cap ∧ cap ≠ 0 := by
    have h := hs.ev hx
    generalize a.eval x = u at h
    cases h with
    | own _ _ _ h1 h2 => exact ⟨_, rfl, by omega⟩
  obtain ⟨cap, hxe, hc⟩ := hx'
  refine ⟨.pointer (some ⟨(g r).1, 0, none⟩), .ref r 0, fun w' => ?_⟩
  simp only [execOp, ho, resolve, invoke, builtin, Sem.run_bind, Sem.run_pure, Result.andThen_ok, List.map_toArray, List.map_cons, List.map_nil, hxe, Lib.run_unsafeSliceData_row _ _ _ _ _ _ hc]
theorem rp_sliceData0 {x : Operand} {t : TypeId} {r sz n : Nat} (ho : o.op = .call { callee := .builtin .unsafeSliceData, args := #[x], argTypes := #[t] }) (hx : s.ev x = some (.own r sz n true)) : RP c o s (.d (.p (.pointer none))) := fun g a w hs => by
  have hx' : a.eval x = .slice none 0 0 := by
    have h := hs.ev hx
    generalize a.eval x = u at h
    cases h with
    | ownNil => rfl
  refine ⟨.pointer none, .d _ _ (.p _), fun w' => ?_⟩
  simp only [execOp, ho, resolve, invoke, builtin, Sem.run_bind, Sem.run_pure, Result.andThen_ok, List.map_toArray, List.map_cons, List.map_nil, hx', Lib.run_unsafeSliceData_nil]
theorem rp_ustr0 {x y : Operand} {t u : TypeId} {n' : Int} (ho : o.op = .call { callee := .builtin .unsafeString, args := #[x, y], argTypes := #[t, u] }) (hx : s.ev x = some (.d (.p (.pointer none)))) (hy : s.ev y = some (.i n')) (hn : n' = 0) : RP c o s (.s ⟨#[]⟩) := fun g a w hs => by
  subst hn
  refine ⟨.string ⟨#[]⟩, .d _ _ (.p _), fun w' => ?_⟩
  simp only [execOp, ho, resolve, invoke, builtin, Sem.run_bind, Sem.run_pure, Result.andThen_ok, List.map_toArray, List.map_cons, List.map_nil, VRep.p_eq (hs.ev hx), VRep.p_eq (hs.ev hy), Lib.run_unsafeString_none]
  rfl
theorem cell_freeze (w : World) (a b : Addr) (n : Nat) : (w.freeze a n).cell? b = w.cell? b := by
  unfold World.freeze
  split
  · rfl
  simp only [World.cell?, Array.getElem?_modify]
  by_cases h : a.block = b.block
  · rw [if_pos h]
    cases hh : w.heap[b.block]? with
    | none => rfl
    | some ob => cases ob <;> rfl
  rw [if_neg h]
theorem add0 (g j : Nat) : (⟨g, 0, none⟩ : Addr).add j = ⟨g, j, none⟩ := by
  unfold Addr.add
  split
  · rename_i h; simp [h]
  simp
theorem heap_freeze_other (w : World) (a : Addr) (n k : Nat) (h : k ≠ a.block) : (w.freeze a n).heap[k]? = w.heap[k]? := by
  unfold World.freeze
  split
  · rfl
  simp only [Array.getElem?_modify]
  rw [if_neg (fun e => h e.symm)]
theorem size_freeze (w : World) (a : Addr) (n : Nat) : (w.freeze a n).heap.size = w.heap.size := by
  unfold World.freeze
  split
  · rfl
  simp
/-- An object of bytes is frozen: it is no object any more. -/
theorem Sim.frzStr (hs : Sim c g s a w) {r : Nat} {row : Row} (hr : fnd s.H r = some row) (hn : row.nil = false) (n : Nat) : Sim c g ⟨s.n, s.T, s.H.filter (fun x => x.1 != r), s.K⟩ a (w.freeze ⟨(g r).1, 0, none⟩ n) := by
  obtain ⟨arr0, h0, _, _⟩ := hs.obj r row hr hn
  have hfn : ∀ k row', fnd (s.H.filter (fun x => x.1 != r)) k = some row' → k ≠ r ∧ fnd s.H k = some row' := by
    intro k row' hk
    have e : k ≠ r := by rintro rfl; rw [fnd_filter_self] at hk; cases hk
    rw [fnd_filter r _ _ e] at hk
    exact ⟨e, hk⟩
  have hq : ∀ b, qt c s.H g b → b < w.heap.size → qt c (s.H.filter (fun x => x.1 != r)) g b := fun b hb _ => ⟨hb.1, fun k row' hk hn => hb.2 k row' (hfn k row' hk).2 hn⟩
  have hw : Cells w (w.freeze ⟨(g r).1, 0, none⟩ n) (qt c s.H g) := ⟨by rw [size_freeze]; exact Nat.le_refl _, fun b o u _ _ h => by rw [cell_freeze]; exact h, fun b es hne hm => by
    rw [heap_freeze_other]
    · exact hm
    intro e
    simp only at e
    rw [e, h0] at hm
    cases hm
    exact hne _ _ _ rfl⟩
  have hm : ∀ {v x}, VRep w (qt c s.H g) g v x → VRep (w.freeze ⟨(g r).1, 0, none⟩ n) (qt c (s.H.filter (fun x => x.1 != r)) g) g v x := fun hv => hv.mono hw hq (fun _ _ => rfl)
  refine ⟨hs.size, hs.defers, ?_, ?_, ?_, ?_, ?_, ?_, hs.low, Lib.below_freeze hs.below (hs.base r row hr hn) n⟩
  · intro i v hv
    obtain ⟨x, h1, h2⟩ := hs.tmp i v hv
    exact ⟨x, h1, hm h2⟩
  · intro k row' hk hn
    exact hs.nul k row' (hfn k row' hk).2 hn
  · intro k row' hk hkn
    obtain ⟨k1, k2⟩ := hfn k row' hk
    obtain ⟨arr, h1, h2, h3⟩ := hs.obj k row' k2 hkn
    refine ⟨arr, ?_, h2, fun j v hv => ?_⟩
    · rw [heap_freeze_other]
      · exact h1
      exact fun e => k1 (hs.inj k r _ _ k2 hkn hr hn e)
    obtain ⟨x, h4, h5⟩ := h3 j v hv
    exact ⟨x, h4, hm h5⟩
  · intro j v x h1 h2
    exact hm (hs.keep j v x h1 h2)
  · intro k k' row row' h1 n1 h2 n2 h3
    exact hs.inj k k' row row' (hfn k row h1).2 n1 (hfn k' row' h2).2 n2 h3
  intro k row h1 n1
  exact hs.base k row (hfn k row h1).2 n1
theorem st_ustr {x y : Operand} {t u e : TypeId} {r : Nat} {n' : Int} {row : Row} {b : ByteArray} (hu : c.P.underlying t = some (.pointer e)) (hce : c.P.cellsOf e = 1) (ho : o.op = .call { callee := .builtin .unsafeString, args := #[x, y], argTypes := #[t, u] }) (hx : s.ev x = some (.ref r 0)) (hy : s.ev y = some (.i n')) (hn : n' = (b.size : Int)) (hb0 : 0 < b.size) (hb : b.size ≤ 140737488355328)
    (hr : fnd s.H r = some row) (hnl : row.nil = false) (hty : row.ty = e) (hrow : row.cells = strV b) (hd : dok s o = true) :
    Step c o s (fun s' => s' = S.put ⟨s.n, s.T, s.H.filter (fun x => x.1 != r), s.K⟩ o.dst (.s b)) := by
  subst hn
  intro g a w hs K Q hK
  have hxe : a.eval x = .pointer (some ⟨(g r).1, 0, none⟩) := by
    have h := hs.ev hx
    generalize a.eval x = u at h
    cases h; rfl
  obtain ⟨arr, h1, _, h2⟩ := hs.obj r row hr hnl
  have hlen : b.data.toList.length = b.size := Array.length_toList
  have hcell : ∀ j x, b.data.toList[j]? = some x → w.cell? ((⟨(g r).1, 0, none⟩ : Addr).add j) = some (.int .u8 x.toNat) := by
    intro j x hj
    obtain ⟨y, h3, h4⟩ := h2 j (.d (.p (.int .u8 (x.toNat : Int)))) (by rw [hrow]; simp [strV, hj])
    have := cell_of_row w (g r).1 j _ _ _ h1
    rw [add0, this, h3, VRep.p_eq h4]
  have hal : b.size ≤ arr.size := by
    obtain ⟨y, h3, _⟩ := h2 (b.size - 1) ((strV b)[b.size - 1]'(by rw [strV_len]; omega)) (by rw [hrow]; exact List.getElem?_eq_getElem _)
    have := (Array.getElem?_eq_some_iff.1 h3).1
    omega
  have hsh : w.shape? (g r).1 = some (e, arr.size) := by
    simp [World.shape?, h1, hty]
  have hrun := Lib.run_unsafeString_row (P := c.P) (w := w) t u o.type e hu hce (g r).1 arr.size hsh b.data.toList (by intro h0; rw [h0] at hlen; simp at hlen; omega) zT13 zT13 hcell
  have hba : (⟨b.data.toList.toArray⟩ : ByteArray) = b := by cases b; simp
  rw [hlen, hba] at hrun
  unfold Oper.wp
  have hexec : (execOp a.eval o).run c.P w = .ok (.value (.string b)) (w.freeze ⟨(g r).1, 0, none⟩ b.size) := by
    simp only [execOp, ho, resolve, invoke, builtin, Sem.run_bind, Sem.run_pure, Result.andThen_ok, List.map_toArray, List.map_cons, List.map_nil, hxe, VRep.p_eq (hs.ev hy), hrun]
  rw [hexec]
  exact hK g _ _ _ rfl ((hs.frzStr hr hnl b.size).put o.dst (dok_spec (s := s) hd) (.d _ _ (.p _)))
end
/-- What is asked of a type that holds a Builder, and nothing else. -/
structure BOk (ty : TypeId) : Prop where
 c0 : 0 < Tryd.prog.cellsOf ty
 c2 : Tryd.prog.cellsOf ty ≤ 2
 row : rowAt Tryd.prog (fun x => sameLayout Tryd.prog Tryd.prog.depth x 77) Tryd.prog.depth ty 1 0 1 = true
/-- A Builder that has written s: a tells whether it knows itself, z whether its buffer is nil. -/
abbrev bT (ty : TypeId) (z : Bool) (s : ByteArray) (H0 : List (Nat × Row)) : List (Nat × Row) := (900, ⟨ty, [.ref 900 0, .own 901 1 s.size z], false, 0⟩) :: (901, ⟨5, strV s, z, 1⟩) :: H0
abbrev bF (ty : TypeId) (z : Bool) (s : ByteArray) (H0 : List (Nat × Row)) : List (Nat × Row) := (900, ⟨ty, [.d (.p (.pointer none)), .own 901 1 s.size z], false, 0⟩) :: (901, ⟨5, strV s, z, 1⟩) :: H0
def bH (ty : TypeId) (a z : Bool) (s : ByteArray) (H0 : List (Nat × Row)) : List (Nat × Row) := match a with
 | true => bT ty z s H0
 | false => bF ty z s H0
section
variable {ty : TypeId} {H0 : List (Nat × Row)} {K : List V}
theorem pc_copyF (hk : BOk ty) (z : Bool) (s : ByteArray) (hl : Lw H0 K) : PC Tryd.prog 43 [.ref 900 0] (bF ty z s H0) K (fun v H' K' => v = .tup [] ∧ H' = bT ty z s H0 ∧ K' = K) := by
 obtain ⟨k0, k1, k2⟩ := hk
 refine PC.intro (n := 20) ⟨Tryd.func43, rfl, rfl, rfl, rfl⟩ zT14 fun w0 out kx => AW.weaken ?_
 simp only [enum]
 apply AW.sr
 refine AL.z ?_
 refine AL.rp rfl rfl (rp_nilCheck rfl rfl) ?_
 iterate 2 refine AL.z ?_
 refine AL.rp rfl rfl (rp_eqlp_nil Tryd.underlying74 rfl rfl rfl) ?_
 apply AL.nil
 try simp only [thenS, S.put, enum, List.nil_append, List.cons_append, List.append_nil, Nat.zero_add, Nat.reduceAdd]
 refine AW.condT rfl ?_
 apply AW.region
 iterate 2 refine AL.z ?_
 refine AL.rd rfl rfl (rd_to_unsafe Tryd.underlying74 Tryd.underlying113 inf77 zT12 rfl rfl rfl rfl (by first | decide | exact Nat.succ_pos _)) ?_
 refine AL.rp rfl rfl (rp_noescape Tryd.func63 zT10 zT10 zT10 zT10 rfl rfl rfl) ?_
 refine AL.rd rfl rfl (rd_from_unsafe Tryd.underlying113 Tryd.underlying74 inf77 rfl rfl rfl rfl (by first | assumption | exact Nat.le_of_ble_eq_true zT10) (by first | assumption | exact Nat.le_of_ble_eq_true zT10) (by first | assumption | kernel_rfl)) ?_
 refine AL.rp rfl rfl (rp_nilCheck rfl rfl) ?_
 refine AL.z ?_
 (refine AL.st rfl (st_store inf74 rfl rfl rfl rfl rfl rfl rfl zT7 rfl) ?_)
 apply AL.nil
 try simp only [nd, setL, V.cs, nz, Nat.reduceAdd, nm, ns]
 exact ⟨_, Less.hp (T := []) trivial rfl rfl (fun k row h => hl.low (T := [_, _, _]) (by rfl) k row h), [], trivial, rfl, rfl, rfl⟩
theorem pc_copyT (hk : BOk ty) (z : Bool) (s : ByteArray) (hl : Lw H0 K) : PC Tryd.prog 43 [.ref 900 0] (bT ty z s H0) K (fun v H' K' => v = .tup [] ∧ H' = bT ty z s H0 ∧ K' = K) := by
 obtain ⟨k0, k1, k2⟩ := hk
 refine PC.intro (n := 20) ⟨Tryd.func43, rfl, rfl, rfl, rfl⟩ zT14 fun w0 out kx => AW.weaken ?_
 simp only [enum]
 apply AW.sr
 refine AL.z ?_
 refine AL.rp rfl rfl (rp_nilCheck rfl rfl) ?_
 iterate 2 refine AL.z ?_
 refine AL.rp rfl rfl (rp_eqlp_own Tryd.underlying74 rfl rfl rfl) ?_
 apply AL.nil
 try simp only [thenS, S.put, enum, List.nil_append, List.cons_append, List.append_nil, Nat.zero_add, Nat.reduceAdd]
 refine AW.condF rfl ?_
 apply AW.sr
 refine AL.z ?_
 refine AL.rp rfl rfl (rp_nilCheck rfl rfl) ?_
 iterate 3 refine AL.z ?_
 refine AL.rp rfl rfl (rp_neqp_same Tryd.underlying74 inf77 rfl rfl rfl) ?_
 apply AL.nil
 try simp only [nd]
 refine AW.condF rfl ?_
 apply AW.skip
 try simp only [thenS]
 exact ⟨_, Less.hp (T := []) trivial rfl rfl (fun k row h => hl.low (T := [_, _]) (by rfl) k row h), [], trivial, rfl, rfl, rfl⟩
theorem pc_copy (hk : BOk ty) (a z : Bool) (s : ByteArray) (hl : Lw H0 K) : PC Tryd.prog 43 [.ref 900 0] (bH ty a z s H0) K (fun v H' K' => v = .tup [] ∧ H' = bT ty z s H0 ∧ K' = K) := by
 cases a
 ·exact pc_copyF hk z s hl
 exact pc_copyT hk z s hl
theorem pc_WriteString (hk : BOk ty) (a z : Bool) (s t : ByteArray) (hl : Lw H0 K) (ht : 0 < t.size) (hst : s.size + t.size ≤ 140737488355328) : PC Tryd.prog 26 [.ref 900 0, .s t] (bH ty a z s H0) K (fun v H' K' => v = .tup [.i (t.size : Int), .d (.p .nilIface)] ∧ H' = bT ty false (s ++ t) H0 ∧ K' = K) := by
 have hcp := fun K (hl : Lw H0 K) => pc_copy hk a z s hl
 have hsl := strV_len s
 refine PC.intro (n := 19) ⟨Tryd.func26, rfl, rfl, rfl, rfl⟩ zT14 fun w0 out kx => AW.weaken ?_
 simp only [enum]
 apply AW.sr
 iterate 2 refine AL.z ?_
 apply AL.nil
 try simp only [thenS, S.put, enum, List.nil_append, List.cons_append, List.append_nil, Nat.zero_add, Nat.reduceAdd]
 apply AW.sr
 refine AL.z ?_
 try simp only [S.put, S.newObj, setL, V.cs, nz, Nat.zero_add, Nat.reduceAdd]
 refine AL.pc [0, 1] (ts := [_, _]) (args := [_]) (post := ?pc0) ?hc0 rfl rfl rfl rfl rfl rfl rfl rfl rfl ?_
 case hc0 => (refine hcp _ (hl.keepL _ ?_) <;> first | rfl | (simp [V.lowL, V.low]; done))
 rintro _ _ _ ⟨rfl, rfl, rfl⟩
 simp only [back, S.put, List.cons_append, List.nil_append, List.zip_cons_cons, List.zip_nil_left, List.drop_succ_cons, List.drop_zero, List.length_cons, List.length_nil, Nat.zero_add, Nat.reduceAdd]
 apply AL.nil
 try simp only [nd]
 apply AW.sr
 iterate 2 refine AL.z ?_
 refine AL.rp rfl rfl (rp_nilCheck rfl rfl) ?_
 iterate 3 refine AL.z ?_
 refine AL.st rfl (st_append_strF Tryd.underlying75 Tryd.underlying9 inf5 rfl rfl rfl rfl rfl rfl rfl zT5 (by exact strV_has _ _) rfl zT9 zT9 rfl) ?_
 simp only [S.forget, S.put, S.newObj, List.filter_cons, Nat.reduceBNe, bne_self_eq_false, if_true, if_false, Bool.false_eq_true, ↓reduceIte, List.map_cons, hl.forgetK 901 zT12, hl.forgetH 901 zT12]
 simp only [S.forget, S.put, S.newObj, junkIf, V.has, V.hasL, nh, hasL_flat, hasL_append, List.map_cons, List.map_nil, List.filter_cons, List.filter_nil, Nat.reduceBNe, Nat.reduceBEq, eq_self, bne_self_eq_false,  Bool.not_true, Bool.not_false, Bool.or_false, Bool.or_true, Bool.false_or, Bool.true_or, if_true, if_false, Bool.false_eq_true, ite_true, ite_false, ↓reduceIte, beq_self_eq_true, Nat.reduceEqDiff]
 refine AL.rp rfl rfl (rp_nilCheck rfl rfl) ?_
 refine AL.z ?_
 (refine AL.st rfl (st_store inf75 rfl rfl rfl rfl rfl rfl rfl zT7 rfl) ?_)
 apply AL.nil
 try simp only [nd, setL, V.cs, nz, Nat.reduceAdd, nm, ns]
 apply AW.sr
 refine AL.z ?_
 refine AL.rp rfl rfl (rp_len_str Tryd.underlying9 rfl rfl) ?_
 iterate 2 refine AL.z ?_
 apply AL.nil
 try simp only [nd]
 apply AW.ret
 refine ⟨_, Less.hp (T := [(4, _), (5, _)]) ⟨⟨_, rfl, Wk.refl _⟩, ⟨_, rfl, Wk.refl _⟩, trivial⟩ rfl rfl (fun k row h => hl.low (T := [_, _, _]) (by rfl) k row h), [_, _], ⟨rfl, rfl, trivial⟩, rfl, ?_, rfl⟩
 show (900, (⟨ty, [.ref 900 0, .own 901 1 (s.size + t.size) false], false, 0⟩ : Row)) :: (901, ⟨5, strV s ++ strV t, false, 1⟩) :: H0 = _
 rw [← strV_app, ← ByteArray.size_append]
theorem Less.same (s : S) : Less s s := ⟨rfl, fun i v h => ⟨v, h, .refl _⟩, fun k row h => ⟨row, h, rfl, rfl, rfl, fun j v hv => ⟨v, hv, .refl _⟩⟩, fun j v h => ⟨v, h, .refl _⟩⟩
theorem Less.h0 {s : S} {T : List (Nat × V)} {H1 : List (Nat × Row)} (hT : LT s T) (h3 : ∀ k row, fnd H1 k = some row → fnd s.H k = some row) : Less ⟨s.n, T, H1, s.K⟩ s :=
 ⟨rfl, fun i v h => hT.get i v h, fun k row h => ⟨row, h3 k row h, rfl, rfl, rfl, fun j v hv => ⟨v, hv, .refl _⟩⟩, fun j v h => ⟨v, h, .refl _⟩⟩
theorem pc_String (z : Bool) (s : ByteArray) (a : Bool) (hl : Lw H0 K) (hz : z = true ↔ s.size = 0) (hst : s.size ≤ 140737488355328) : PC Tryd.prog 28 [.ref 900 0] (bH ty a z s H0) K (fun v H' K' => v = .s s ∧ H' = H0 ∧ K' = K) := by
 cases z with
 | true =>
  have h0 : s.size = 0 := hz.1 rfl
  have hs : s = ⟨#[]⟩ := by
   cases s with | mk x =>
   congr 1
   exact Array.eq_empty_of_size_eq_zero h0
  cases a
  all_goals
   refine PC.intro (n := 14) ⟨Tryd.func28, rfl, rfl, rfl, rfl⟩ zT14 fun w0 out kx => AW.weaken ?_
   simp only [enum, bH]
   apply AW.sr
   refine AL.z ?_
   apply AL.nil
   try simp only [thenS, S.put, enum, List.nil_append, List.cons_append, List.append_nil, Nat.zero_add, Nat.reduceAdd]
   apply AW.seq
   refine AW.draw [(0, true), (1, true), (2, true), (3, true), (4, true), (5, true), (6, true), (7, true), (8, true), (9, true), (10, false), (11, false)] (fun i => !([10, 11] : List Nat).contains i) 12 zT10 zT10 rfl zT10 ?_
   refine AD1.z ?_
   refine AD1.rp rfl rfl rfl (fun _ _ h => h) (rp_nilCheck rfl rfl) ?_
   iterate 2 refine AD1.z ?_
   refine AD1.rp rfl rfl rfl (fun _ _ h => h) (rp_sliceData0 rfl rfl) ?_
   refine AD1.z ?_
   refine AD1.rp rfl rfl rfl (fun _ _ h => h) (rp_nilCheck rfl rfl) ?_
   iterate 3 refine AD1.z ?_
   refine AD1.go ?_
   refine AD2.go ?_
   refine AD3.rp1 rfl rfl rfl rfl (rp_ustr0 rfl rfl rfl zT13) ?_
   refine AD3.rp1 rfl rfl rfl rfl (rp_assign rfl rfl) ?_
   refine AD3.nil ?_
   try simp only [nd, setL, V.cs, nz, Nat.reduceAdd, nm, ns]
   apply AW.ret
   exact ⟨_, Less.h0 (T := [(2, _)]) ⟨⟨_, rfl, Wk.refl _⟩, trivial⟩ (fun k row h => hl.low (T := [_, _]) (by rfl) k row h), [_], ⟨rfl, trivial⟩, by rw [hs]; rfl, rfl, rfl⟩
 | false =>
  have h0 : 0 < s.size := by
   rcases Nat.eq_zero_or_pos s.size with h | h
   ·have := hz.2 h
    cases this
   exact h
  cases a
  all_goals
   refine PC.intro (n := 14) ⟨Tryd.func28, rfl, rfl, rfl, rfl⟩ zT14 fun w0 out kx => AW.weaken ?_
   simp only [enum, bH]
   apply AW.sr
   refine AL.z ?_
   apply AL.nil
   try simp only [thenS, S.put, enum, List.nil_append, List.cons_append, List.append_nil, Nat.zero_add, Nat.reduceAdd]
   apply AW.seq
   refine AW.draw [(0, true), (1, true), (2, true), (3, true), (4, true), (5, true), (6, true), (7, true), (8, true), (9, true), (10, false), (11, false)] (fun i => !([10, 11] : List Nat).contains i) 12 zT10 zT10 rfl zT10 ?_
   refine AD1.z ?_
   refine AD1.rp rfl rfl rfl (fun _ _ h => h) (rp_nilCheck rfl rfl) ?_
   iterate 2 refine AD1.z ?_
   refine AD1.rp rfl rfl rfl (fun _ _ h => h) (rp_sliceData rfl rfl zT9) ?_
   refine AD1.z ?_
   refine AD1.rp rfl rfl rfl (fun _ _ h => h) (rp_nilCheck rfl rfl) ?_
   iterate 3 refine AD1.z ?_
   refine AD1.go ?_
   refine AD2.go ?_
   refine AD3.st rfl rfl rfl (st_ustr Tryd.underlying97 zT10 rfl rfl rfl rfl zT9 zT9 rfl rfl rfl rfl rfl) ?_
   refine AD3.rp1 rfl rfl rfl rfl (rp_assign rfl rfl) ?_
   refine AD3.nil ?_
   try simp only [nd, setL, V.cs, nz, Nat.reduceAdd, nm, ns]
   apply AW.ret
   exact ⟨_, Less.h0 (T := [(2, _)]) ⟨⟨_, rfl, Wk.refl _⟩, trivial⟩ (fun k row h => by
    have hk : k ≠ 901 := by
     rintro rfl
     rw [hl.fnd 901 zT12] at h
     cases h
    refine (fnd_filter 901 _ _ hk).trans ?_
    exact hl.low (T := [_, _]) (by rfl) k row h), [_], ⟨rfl, trivial⟩, rfl, rfl, rfl⟩
end
section
variable {c : Cx} {s : S} {o : Oper} {t t' : TypeId} {x y : Operand} {m n : Int}
end
section
variable {c : Cx} {s : S} {o : Oper} {Q : Exit → S → Prop} {L : List Oper} {need : Nat → Bool} {i : Nat} {r : List (Nat × Nat)}
theorem AF3.pc {P : Program} {f : FuncId} {args : List V} {H : List (Nat × Row)} {K : List V} {post : V → List (Nat × Row) → List V → Prop} {fx : Operand} {xs : Array Operand} {tys : Array TypeId} (hi : L[i]? = some o) (hn : need i = false) (l : List Nat) {ts : List V} (h : PC P f args H K post) (hg : o.guard = none) (hP : c.P = P) (ho : o.op = .call { callee := .value fx, args := xs, argTypes := tys }) (hfx : s.ev fx = some (.fn f [])) (hargs : xs.toList.map s.ev = args.map some)
    (hts : l.map (fun i => fnd s.T i) = ts.map some) (hH : s.H = H) (hK : ts ++ s.K = K) (hd : dok s o = true) (hN : ∀ v H' K', post v H' K' → AF3 c L.toArray Q need r (back s l o.dst v H' K')) : AF3 c L.toArray Q need ((i, 0) :: r) s :=
  AF3.step hi hg hn fun g a w hs K' Q' hK' => h c s o fx xs tys l ts hP ho hfx hargs hts hH hK hd g a w hs K' Q' fun g' s' a' w' ⟨v, H', K2, h1, h2⟩ h3 => hK' g' s' a' w' (by subst h2; exact hN _ _ _ h1) h3
end
def decS (n : Nat) : ByteArray := ⟨(Lib.decDigits n).toArray⟩
def laysM171_ren : Go.Shelf.Ren := ⟨fun | 171 => 27 | 243 => 44 | 246 => 64 | 283 => 78 | 284 => 79 | 285 => 80 | 286 => 81 | 129 => 54 | 317 => 86 | 318 => 87 | 319 => 88 | 320 => 89 | 337 => 91 | 338 => 92 | n => n, fun | 3 => 3 | 9 => 9 | 2 => 2 | 4 => 4 | 171 => 127 | 0 => 0 | 53 => 108 | 37 => 75 | 5 => 5 | 173 => 129 | 212 => 138 | 51 => 106 | 20 => 20 | 213 => 139 | 46 => 86 | 232 => 141 | 233 => 142 | n => n, fun | 17 => 0 | 18 => 1 | 19 => 2 | n => n⟩
theorem laysM171 : Go.Proofs.LaysM.n171 Tryd.prog laysM171_ren := {
  mixed := by kernel_rfl
  f129 := Tryd.func54.trans (congrArg some (by kernel_rfl))
  f171 := Tryd.func27.trans (congrArg some (by kernel_rfl))
  f243 := Tryd.func44.trans (congrArg some (by kernel_rfl))
  f246 := Tryd.func64.trans (congrArg some (by kernel_rfl))
  f283 := Tryd.func78.trans (congrArg some (by kernel_rfl))
  f284 := Tryd.func79.trans (congrArg some (by kernel_rfl))
  f285 := Tryd.func80.trans (congrArg some (by kernel_rfl))
  f286 := Tryd.func81.trans (congrArg some (by kernel_rfl))
  f317 := Tryd.func86.trans (congrArg some (by kernel_rfl))
  f318 := Tryd.func87.trans (congrArg some (by kernel_rfl))
  f319 := Tryd.func88.trans (congrArg some (by kernel_rfl))
  f320 := Tryd.func89.trans (congrArg some (by kernel_rfl))
  f337 := Tryd.func91.trans (congrArg some (by kernel_rfl))
  f338 := Tryd.func92.trans (congrArg some (by kernel_rfl))
  t0 := Tryd.underlying0
  a0 := Tryd.isAgg0
  z0 := Tryd.sizeOf0
  v0 := Tryd.zeroValue0
  t2 := Tryd.underlying2
  a2 := Tryd.isAgg2
  z2 := Tryd.sizeOf2
  v2 := Tryd.zeroValue2
  t3 := Tryd.underlying3
  a3 := Tryd.isAgg3
  z3 := Tryd.sizeOf3
  v3 := Tryd.zeroValue3
  t4 := Tryd.underlying4
  a4 := Tryd.isAgg4
  z4 := Tryd.sizeOf4
  v4 := Tryd.zeroValue4
  t5 := Tryd.underlying5
  a5 := Tryd.isAgg5
  z5 := Tryd.sizeOf5
  v5 := Tryd.zeroValue5
  t9 := Tryd.underlying9
  a9 := Tryd.isAgg9
  z9 := Tryd.sizeOf9
  v9 := Tryd.zeroValue9
  t20 := Tryd.underlying20
  a20 := Tryd.isAgg20
  z20 := Tryd.sizeOf20
  v20 := Tryd.zeroValue20
  t37 := Tryd.underlying75
  a37 := Tryd.isAgg75
  z37 := Tryd.sizeOf75
  v37 := Tryd.zeroValue75
  t46 := Tryd.underlying86
  a46 := Tryd.isAgg86
  z46 := Tryd.sizeOf86
  v46 := Tryd.zeroValue86
  t51 := Tryd.underlying106
  a51 := Tryd.isAgg106
  z51 := Tryd.sizeOf106
  v51 := Tryd.zeroValue106
  t53 := Tryd.underlying108
  a53 := Tryd.isAgg108
  z53 := Tryd.sizeOf108
  v53 := Tryd.zeroValue108
  t171 := Tryd.underlying127
  a171 := Tryd.isAgg127
  z171 := Tryd.sizeOf127
  v171 := Tryd.zeroValue127
  t173 := Tryd.underlying129
  a173 := Tryd.isAgg129
  z173 := Tryd.sizeOf129
  v173 := Tryd.zeroValue129
  t212 := Tryd.underlying138
  a212 := Tryd.isAgg138
  z212 := Tryd.sizeOf138
  v212 := Tryd.zeroValue138
  t213 := Tryd.underlying139
  a213 := Tryd.isAgg139
  z213 := Tryd.sizeOf139
  t232 := Tryd.underlying141
  a232 := Tryd.isAgg141
  z232 := Tryd.sizeOf141
  v232 := Tryd.zeroValue141
  t233 := Tryd.underlying142
  a233 := Tryd.isAgg142
  z233 := Tryd.sizeOf142
  v233 := Tryd.zeroValue142
  g17 := by kernel_rfl
  g18 := by kernel_rfl
  g19 := by kernel_rfl
  i0 := by kernel_rfl
  i2 := by kernel_rfl
  i3 := by kernel_rfl
  i4 := by kernel_rfl
  i5 := by kernel_rfl
  i9 := by kernel_rfl
  i20 := by kernel_rfl
  i37 := by kernel_rfl
  i46 := by kernel_rfl
  i51 := by kernel_rfl
  i53 := by kernel_rfl
  i171 := by kernel_rfl
  i173 := by kernel_rfl
  i212 := by kernel_rfl
  i232 := by kernel_rfl
  i233 := by kernel_rfl
  m17 := by kernel_rfl
  m18 := by kernel_rfl
  m19 := by kernel_rfl }
theorem itoa_call (n : Int) (h0 : -9223372036854775808 ≤ n) (h1 : n ≤ 9223372036854775807) (w : World) (htab : Lib.TabIs Tryd.prog w "internal/strconv.uint64pow10" .u64 Lib.pow10Tab) :
    Calls Tryd.prog 27 #[.int .i64 n] w fun e w' => e = .returned (.string ⟨(Lib.itoa n).toArray⟩) ∧ ∃ k os, w' = grow (w.drewN k) os := Any.strconv_Itoa laysM171 n h0 h1 w htab
theorem grow_below (w : World) (k : Nat) (os : Array Obj) : Below w.heap.size w (grow (w.drewN k) os) :=
  ⟨rfl, rfl, rfl, by simp [grow, World.drewN], fun k hk => by simp [grow, World.drewN, Array.getElem?_append_left hk]⟩
def preT : World → Prop := fun w => Lib.TabIs Tryd.prog w "internal/strconv.uint64pow10" .u64 Lib.pow10Tab
theorem am_In (n lo hi : Int) : Fn Tryd.prog 58 [.i n, .i lo, .i hi] (fun v => v = .b (decide (lo ≤ n ∧ n ≤ hi))) := by
 refine Fn.intro (n := 15) ⟨Tryd.func58, rfl, rfl, rfl, rfl⟩ zT8 zT14 fun w0 out => ?_
 by_cases h1 : lo ≤ n
 ·by_cases h2 : n ≤ hi
  ·skip
   apply AW.sr
   refine AL.z ?_
   apply AL.nil
   try simp only [thenS, S.put, enum, List.nil_append, List.cons_append, List.append_nil, Nat.zero_add, Nat.reduceAdd]
   apply AW.sr
   iterate 4 refine AL.z ?_
   iterate 3 refine AL.zy ?_
   iterate 2 refine AL.z ?_
   apply AL.nil
   try simp only [nd]
   apply AW.ret
   exact ⟨[_], ⟨rfl, trivial⟩, by simp [tupOf, h1, h2], by simp [tupOf, V.pure, V.has]⟩
  skip
  apply AW.sr
  refine AL.z ?_
  apply AL.nil
  try simp only [thenS, S.put, enum, List.nil_append, List.cons_append, List.append_nil, Nat.zero_add, Nat.reduceAdd]
  apply AW.sr
  iterate 4 refine AL.z ?_
  iterate 3 refine AL.zy ?_
  iterate 2 refine AL.z ?_
  apply AL.nil
  try simp only [nd]
  apply AW.ret
  exact ⟨[_], ⟨rfl, trivial⟩, by simp [tupOf, h1, h2], by simp [tupOf, V.pure, V.has]⟩
 skip
 apply AW.sr
 refine AL.z ?_
 apply AL.nil
 try simp only [thenS, S.put, enum, List.nil_append, List.cons_append, List.append_nil, Nat.zero_add, Nat.reduceAdd]
 apply AW.sr
 iterate 4 refine AL.z ?_
 refine AL.no rfl rfl rfl rfl ?_
 refine AL.no rfl rfl rfl rfl ?_
 refine AL.no rfl rfl rfl rfl ?_
 iterate 2 refine AL.z ?_
 apply AL.nil
 try simp only [nd]
 apply AW.ret
 exact ⟨[_], ⟨rfl, trivial⟩, by simp [tupOf, h1], by simp [tupOf, V.pure, V.has]⟩
theorem am_ArcCount (m : Mach) (h60 : m.states.length ≤ 60) : Fn Tryd.prog 57 [mV m] (fun v => v = .i (arcN m.states)) := by
 refine Fn.mach m 0 rfl fun _ hal => ?_
 obtain ⟨st, sts⟩ := m
 simp only at h60 hal ⊢
 obtain ⟨len, hl⟩ : ∃ n, sts.length = n := ⟨_, rfl⟩
 rw [hl] at h60
 refine Fn.intro (n := 22) ⟨Tryd.func57, rfl, rfl, rfl, rfl⟩ zT8 zT14 fun w0 out => ?_
 apply AW.sr
 refine AL.sm rfl (sm_box 1 rfl rfl rfl rfl rfl) ?_
 refine AL.z ?_
 apply AL.nil
 try simp only [nd, setL, V.cs, nz, Nat.reduceAdd, nm, ns, enum]
 apply AW.sr
 refine AL.z ?_
 apply AL.nil
 try simp only [nd]
 apply AW.seq
 apply AW.sr
 refine AL.z ?_
 apply AL.nil
 try simp only [nd]
 apply AW.block
 refine AW.loop (fun s' => ∃ k : Nat, k ≤ len ∧ arcN (sts.take k) ≤ k * 4398046511104 ∧ s' = ⟨22, [(1, .ref 1 0), (3, .i (arcN (sts.take k))), (4, .i k)], [(1, ⟨24, [.i st, .d (stsD sts)], false, 0⟩)], []⟩) (fun s' => len - s'.nat 4) ⟨_, ?_, 0, by omega, by simp [arcN], rfl⟩ ?_
 ·exact Less.a0
 rintro s' ⟨k, hk, hs, rfl⟩
 by_cases hlt : k < len
 ·obtain ⟨x, hx⟩ := get_lt hl hlt
  obtain ⟨la, hla⟩ : ∃ n, x.arcs.length = n := ⟨_, rfl⟩
  have hla' := hal x (List.mem_of_getElem? hx)
  have hsn : arcN (sts.take (k + 1)) = arcN (sts.take k) + la := by rw [take_snoc hx, arcN_snoc, hla]
  apply AW.seq
  apply AW.sr
  iterate 5 refine AL.z ?_
  apply AL.nil
  try simp only [nd]
  refine AW.condT rfl ?_
  apply AW.skip
  try simp only [thenS]
  apply AW.seq
  apply AW.block
  apply AW.region
  iterate 10 refine AL.z ?_
  apply AL.nil
  try simp only [nd]
  apply AW.region
  iterate 3 refine AL.z ?_
  apply AL.nil
  try simp only [nd]
  refine ⟨_, ?_, ⟨k + 1, by omega, by omega, rfl⟩, ?_⟩
  ·rw [hsn]; exact Less.a0
  simp [S.nat, fnd]; omega
 skip
 apply AW.seq
 apply AW.sr
 iterate 5 refine AL.z ?_
 apply AL.nil
 try simp only [nd]
 refine AW.condF rfl ?_
 refine AW.exit ?_
 try simp only [thenS, inBlockS, ↓reduceIte, Nat.reduceEqDiff]
 apply AW.sr
 iterate 2 refine AL.z ?_
 apply AL.nil
 try simp only [nd]
 apply AW.ret
 exact ⟨[_], ⟨rfl, trivial⟩, by rw [arcN_full hl hlt]; rfl, by simp [tupOf, V.pure, V.has]⟩
theorem am_IsWeight (x : Int) : Fn Tryd.prog 59 [.i x] (fun v => v = .b (decide (0 ≤ x ∧ x ≤ 1000000001))) := by
 refine Fn.intro (n := 9) ⟨Tryd.func59, rfl, rfl, rfl, rfl⟩ zT8 zT14 fun w0 out => ?_
 by_cases h1 : x = 1000000001
 ·skip
  apply AW.sr
  refine AL.z ?_
  apply AL.nil
  try simp only [thenS, S.put, enum, List.nil_append, List.cons_append, List.append_nil, Nat.zero_add, Nat.reduceAdd]
  apply AW.sr
  iterate 3 refine AL.z ?_
  refine AL.no rfl rfl rfl rfl ?_
  refine AL.no rfl rfl rfl rfl ?_
  iterate 2 refine AL.z ?_
  apply AL.nil
  try simp only [nd, setL, V.cs, nz, Nat.reduceAdd, nm, ns]
  apply AW.ret
  exact ⟨[_], ⟨rfl, trivial⟩, by simp [tupOf, h1], by simp [tupOf, V.pure, V.has]⟩
 skip
 apply AW.sr
 refine AL.z ?_
 apply AL.nil
 try simp only [thenS, S.put, enum, List.nil_append, List.cons_append, List.append_nil, Nat.zero_add, Nat.reduceAdd]
 apply AW.sr
 iterate 3 refine AL.z ?_
 refine AL.zy ?_
 (refine AL.cally (post := ?pc1) rfl rfl (sm_call (args := [_, _, _]) ?hc1 ⟨Tryd.func58, rfl, rfl, rfl, rfl⟩ rfl rfl rfl rfl) ?_; (case hc1 => (exact am_In _ _ _)); rintro _ rfl -; try dsimp only)
 iterate 2 refine AL.z ?_
 apply AL.nil
 try simp only [nd, setL, V.cs, nz, Nat.reduceAdd, nm, ns]
 apply AW.ret
 refine ⟨[_], ⟨rfl, trivial⟩, ?_, by simp [tupOf, V.pure, V.has]⟩
 simp only [tupOf, V.b, V.d.injEq, D.p.injEq, Value.bool.injEq, decide_eq_decide]
 omega
theorem am_Fault (m : Mach) : Fn Tryd.prog 34 [mV m] (fun v => v = .i (machE m)) := by
 refine Fn.mach m 0 rfl fun hsl hal => ?_
 obtain ⟨st, sts⟩ := m
 simp only at hsl hal ⊢
 obtain ⟨len, hl⟩ : ∃ n, sts.length = n := ⟨_, rfl⟩
 rw [hl] at hsl
 refine Fn.intro (n := 77) ⟨Tryd.func34, rfl, rfl, rfl, rfl⟩ zT8 zT14 fun w0 out => ?_
 by_cases h60 : 60 < len
 ·skip
  apply AW.sr
  refine AL.sm rfl (sm_box 1 rfl rfl rfl rfl rfl) ?_
  refine AL.z ?_
  apply AL.nil
  try simp only [nd, setL, V.cs, nz, Nat.reduceAdd, nm, ns, enum]
  apply AW.sr
  iterate 4 refine AL.z ?_
  apply AL.nil
  try simp only [nd]
  apply AW.seq
  apply AW.sr
  iterate 3 refine AL.z ?_
  refine AL.no rfl rfl rfl rfl ?_
  refine AL.no rfl rfl rfl rfl ?_
  refine AL.no rfl rfl rfl rfl ?_
  refine AL.z ?_
  apply AL.nil
  try simp only [nd, setL, V.cs, nz, Nat.reduceAdd, nm, ns]
  refine AW.condT rfl ?_
  apply AW.sr
  refine AL.z ?_
  apply AL.nil
  try simp only [nd]
  apply AW.ret
  exact ⟨[_], ⟨rfl, trivial⟩, by rw [machE_size (.inl (by rw [hl]; exact h60))]; rfl, by simp [tupOf, V.pure, V.has]⟩
 by_cases h400 : 400 < arcN sts
 ·skip
  apply AW.sr
  refine AL.sm rfl (sm_box 1 rfl rfl rfl rfl rfl) ?_
  refine AL.z ?_
  apply AL.nil
  try simp only [nd, setL, V.cs, nz, Nat.reduceAdd, nm, ns, enum]
  apply AW.sr
  iterate 4 refine AL.z ?_
  apply AL.nil
  try simp only [nd]
  apply AW.seq
  apply AW.sr
  iterate 3 refine AL.z ?_
  refine AL.zy ?_
  (refine AL.cally (post := ?pc3) rfl rfl (sm_call (args := [_]) ?hc3 ⟨Tryd.func57, rfl, rfl, rfl, rfl⟩ rfl rfl rfl rfl) ?_; (case hc3 => (exact am_ArcCount ⟨st, sts⟩ (by simp only; omega))); rintro _ rfl -; try dsimp only)
  refine AL.zy ?_
  refine AL.z ?_
  apply AL.nil
  try simp only [nd, setL, V.cs, nz, Nat.reduceAdd, nm, ns]
  refine AW.condT rfl ?_
  apply AW.sr
  refine AL.z ?_
  apply AL.nil
  try simp only [nd]
  apply AW.ret
  exact ⟨[_], ⟨rfl, trivial⟩, by rw [machE_size (.inr h400)]; rfl, by simp [tupOf, V.pure, V.has]⟩
 by_cases hst : -1 ≤ st ∧ st ≤ (len : Int) - 1
 ·skip
  apply AW.sr
  refine AL.sm rfl (sm_box 1 rfl rfl rfl rfl rfl) ?_
  refine AL.z ?_
  apply AL.nil
  try simp only [nd, setL, V.cs, nz, Nat.reduceAdd, nm, ns, enum]
  apply AW.sr
  iterate 4 refine AL.z ?_
  apply AL.nil
  try simp only [nd]
  apply AW.seq
  apply AW.sr
  iterate 3 refine AL.z ?_
  refine AL.zy ?_
  (refine AL.cally (post := ?pc4) rfl rfl (sm_call (args := [_]) ?hc4 ⟨Tryd.func57, rfl, rfl, rfl, rfl⟩ rfl rfl rfl rfl) ?_; (case hc4 => (exact am_ArcCount ⟨st, sts⟩ (by simp only; omega))); rintro _ rfl -; try dsimp only)
  refine AL.zy ?_
  refine AL.z ?_
  apply AL.nil
  try simp only [nd, setL, V.cs, nz, Nat.reduceAdd, nm, ns]
  refine AW.condF rfl ?_
  apply AW.skip
  try simp only [thenS]
  apply AW.seq
  apply AW.sr
  iterate 4 refine AL.z ?_
  refine AL.call (post := ?pc5) rfl (sm_call (args := [_, _, _]) ?hc5 ⟨Tryd.func58, rfl, rfl, rfl, rfl⟩ rfl rfl rfl rfl) ?_
  case hc5 => first | (refine Fn.decT (am_In _ _ _) ?_; omega) | (refine Fn.decF (am_In _ _ _) ?_; omega) | exact am_In _ _ _
  rintro _ rfl -
  try dsimp only
  refine AL.z ?_
  apply AL.nil
  try simp only [nd, setL, V.cs, nz, Nat.reduceAdd, nm, ns]
  refine AW.condF rfl ?_
  apply AW.skip
  try simp only [thenS]
  apply AW.seq
  apply AW.sr
  refine AL.z ?_
  apply AL.nil
  try simp only [nd]
  apply AW.block
  refine AW.loop (fun s' => ∃ k : Nat, k ≤ len ∧ (sts.take k).all (stOk len) = true ∧ s' = ⟨77, [(1, .ref 1 0), (3, .i len), (4, .i k)], [(1, ⟨24, [.i st, .d (stsD sts)], false, 0⟩)], []⟩) (fun s' => len - s'.nat 4) ⟨_, ?_, 0, by omega, by simp, rfl⟩ ?_
  ·exact Less.a0
  rintro s' ⟨k, hk, hall, rfl⟩
  by_cases hlt : k < len
  ·obtain ⟨x, hx⟩ := get_lt hl hlt
   obtain ⟨la, hla⟩ : ∃ n, x.arcs.length = n := ⟨_, rfl⟩
   have hla' := hal x (List.mem_of_getElem? hx)
   by_cases hf : 0 ≤ x.fin ∧ x.fin ≤ 1000000001
   ·skip
    apply AW.seq
    apply AW.sr
    iterate 3 refine AL.z ?_
    apply AL.nil
    try simp only [nd]
    refine AW.condT rfl ?_
    apply AW.skip
    try simp only [thenS]
    apply AW.seq
    apply AW.block
    apply AW.seq
    apply AW.sr
    iterate 6 refine AL.z ?_
    refine AL.call (post := ?pc6) rfl (sm_call (args := [_]) ?hc6 ⟨Tryd.func59, rfl, rfl, rfl, rfl⟩ rfl rfl rfl rfl) ?_
    case hc6 => first | (refine Fn.decT (am_IsWeight _) ?_; omega) | (refine Fn.decF (am_IsWeight _) ?_; omega) | exact am_IsWeight _
    rintro _ rfl -
    try dsimp only
    refine AL.z ?_
    apply AL.nil
    try simp only [nd, setL, V.cs, nz, Nat.reduceAdd, nm, ns]
    refine AW.condF rfl ?_
    apply AW.skip
    try simp only [thenS]
    apply AW.sr
    iterate 7 refine AL.z ?_
    apply AL.nil
    try simp only [nd]
    apply AW.sr
    refine AL.z ?_
    apply AL.nil
    try simp only [nd]
    apply AW.block
    refine AW.loop (fun s' => ∃ j : Nat, j ≤ la ∧ (x.arcs.take j).all (arOk len) = true ∧ s' = ⟨77, [(1, .ref 1 0), (3, .i len), (4, .i k), (5, .d (arsD x.arcs)), (6, .i j)], [(1, ⟨24, [.i st, .d (stsD sts)], false, 0⟩)], []⟩) (fun s' => la - s'.nat 6) ⟨_, ?_, 0, by omega, by simp, rfl⟩ ?_
    ·exact Less.a0
    rintro s' ⟨j, hj, hall2, rfl⟩
    by_cases hlj : j < la
    ·obtain ⟨y, hy⟩ := get_lt hla hlj
     by_cases hok : (0 ≤ y.i ∧ y.i ≤ 1000) ∧ (0 ≤ y.o ∧ y.o ≤ 1000) ∧ (0 ≤ y.w ∧ y.w ≤ 1000000000) ∧ 0 ≤ y.t ∧ y.t ≤ (len : Int) - 1
     ·obtain ⟨h1, h2, h3, h4⟩ := hok
      apply AW.seq
      apply AW.sr
      iterate 4 refine AL.z ?_
      apply AL.nil
      try simp only [nd]
      refine AW.condT rfl ?_
      apply AW.skip
      try simp only [thenS]
      apply AW.seq
      apply AW.block
      apply AW.sr
      iterate 4 refine AL.z ?_
      refine AL.sm rfl (sm_alloc (l := [.d (.p (.int .i64 0)), .d (.p (.int .i64 0)), .d (.p (.int .i64 0)), .d (.p (.int .i64 0))]) 7 inf60 rfl rfl rfl rfl) ?_
      refine AL.y ?_
      apply AL.nil
      try simp only [nd, setL, V.cs, nz, Nat.reduceAdd, nm, ns]
      apply AW.sr
      iterate 2 refine AL.z ?_
      refine AL.call (post := ?pc7) rfl (sm_call (args := [_, _, _]) ?hc7 ⟨Tryd.func58, rfl, rfl, rfl, rfl⟩ rfl rfl rfl rfl) ?_
      case hc7 => first | (refine Fn.decT (am_In _ _ _) ?_; omega) | (refine Fn.decF (am_In _ _ _) ?_; omega) | exact am_In _ _ _
      rintro _ rfl -
      try dsimp only
      iterate 2 refine AL.z ?_
      iterate 2 refine AL.zy ?_
      (refine AL.cally (post := ?pc8) rfl rfl (sm_call (args := [_, _, _]) ?hc8 ⟨Tryd.func58, rfl, rfl, rfl, rfl⟩ rfl rfl rfl rfl) ?_; (case hc8 => (refine Fn.decT (am_In _ _ _) ?_; omega)); rintro _ rfl -; try dsimp only)
      refine AL.zy ?_
      iterate 2 refine AL.z ?_
      iterate 2 refine AL.zy ?_
      (refine AL.cally (post := ?pc9) rfl rfl (sm_call (args := [_, _, _]) ?hc9 ⟨Tryd.func58, rfl, rfl, rfl, rfl⟩ rfl rfl rfl rfl) ?_; (case hc9 => (refine Fn.decT (am_In _ _ _) ?_; omega)); rintro _ rfl -; try dsimp only)
      refine AL.zy ?_
      iterate 2 refine AL.z ?_
      iterate 4 refine AL.zy ?_
      (refine AL.cally (post := ?pc10) rfl rfl (sm_call (args := [_, _, _]) ?hc10 ⟨Tryd.func58, rfl, rfl, rfl, rfl⟩ rfl rfl rfl rfl) ?_; (case hc10 => (refine Fn.decT (am_In _ _ _) ?_; omega)); rintro _ rfl -; try dsimp only)
      refine AL.zy ?_
      refine AL.z ?_
      apply AL.nil
      try simp only [nd, setL, V.cs, nz, Nat.reduceAdd, nm, ns]
      refine AW.condF rfl ?_
      apply AW.skip
      try simp only [thenS]
      apply AW.region
      iterate 3 refine AL.z ?_
      apply AL.nil
      try simp only [nd]
      refine ⟨_, ?_, ⟨j + 1, by omega, all_snoc' hy hall2 (arOk_yes zT13), rfl⟩, ?_⟩
      ·exact Less.a0
      simp [S.nat, fnd]; omega
     have hE : machE ⟨st, sts⟩ = 2 := machE_state hl h60 h400 hx (stOk_arc hy (arOk_no zT13))
     rw [hE]
     by_cases h1 : 0 ≤ y.i ∧ y.i ≤ 1000
     ·by_cases h2 : 0 ≤ y.o ∧ y.o ≤ 1000
      ·by_cases h3 : 0 ≤ y.w ∧ y.w ≤ 1000000000
       ·have h4 : ¬ (0 ≤ y.t ∧ y.t ≤ (len : Int) - 1) := fun h4 => hok ⟨h1, h2, h3, h4⟩
        clear hok
        apply AW.seq
        apply AW.sr
        iterate 4 refine AL.z ?_
        apply AL.nil
        try simp only [nd]
        refine AW.condT rfl ?_
        apply AW.skip
        try simp only [thenS]
        apply AW.seq
        apply AW.block
        apply AW.sr
        iterate 4 refine AL.z ?_
        refine AL.sm rfl (sm_alloc (l := [.d (.p (.int .i64 0)), .d (.p (.int .i64 0)), .d (.p (.int .i64 0)), .d (.p (.int .i64 0))]) 7 inf60 rfl rfl rfl rfl) ?_
        refine AL.y ?_
        apply AL.nil
        try simp only [nd, setL, V.cs, nz, Nat.reduceAdd, nm, ns]
        apply AW.sr
        iterate 2 refine AL.z ?_
        refine AL.call (post := ?pc11) rfl (sm_call (args := [_, _, _]) ?hc11 ⟨Tryd.func58, rfl, rfl, rfl, rfl⟩ rfl rfl rfl rfl) ?_
        case hc11 => first | (refine Fn.decT (am_In _ _ _) ?_; omega) | (refine Fn.decF (am_In _ _ _) ?_; omega) | exact am_In _ _ _
        rintro _ rfl -
        try dsimp only
        iterate 2 refine AL.z ?_
        iterate 2 refine AL.zy ?_
        (refine AL.cally (post := ?pc12) rfl rfl (sm_call (args := [_, _, _]) ?hc12 ⟨Tryd.func58, rfl, rfl, rfl, rfl⟩ rfl rfl rfl rfl) ?_; (case hc12 => (refine Fn.decT (am_In _ _ _) ?_; omega)); rintro _ rfl -; try dsimp only)
        refine AL.zy ?_
        iterate 2 refine AL.z ?_
        iterate 2 refine AL.zy ?_
        (refine AL.cally (post := ?pc13) rfl rfl (sm_call (args := [_, _, _]) ?hc13 ⟨Tryd.func58, rfl, rfl, rfl, rfl⟩ rfl rfl rfl rfl) ?_; (case hc13 => (refine Fn.decT (am_In _ _ _) ?_; omega)); rintro _ rfl -; try dsimp only)
        refine AL.zy ?_
        iterate 2 refine AL.z ?_
        iterate 4 refine AL.zy ?_
        (refine AL.cally (post := ?pc14) rfl rfl (sm_call (args := [_, _, _]) ?hc14 ⟨Tryd.func58, rfl, rfl, rfl, rfl⟩ rfl rfl rfl rfl) ?_; (case hc14 => (refine Fn.decF (am_In _ _ _) ?_; omega)); rintro _ rfl -; try dsimp only)
        refine AL.zy ?_
        refine AL.z ?_
        apply AL.nil
        try simp only [nd, setL, V.cs, nz, Nat.reduceAdd, nm, ns]
        refine AW.condT rfl ?_
        apply AW.sr
        refine AL.z ?_
        apply AL.nil
        try simp only [nd]
        apply AW.ret
        exact ⟨[_], ⟨rfl, trivial⟩, rfl, by simp [tupOf, V.pure, V.has]⟩
       clear hok
       apply AW.seq
       apply AW.sr
       iterate 4 refine AL.z ?_
       apply AL.nil
       try simp only [nd]
       refine AW.condT rfl ?_
       apply AW.skip
       try simp only [thenS]
       apply AW.seq
       apply AW.block
       apply AW.sr
       iterate 4 refine AL.z ?_
       refine AL.sm rfl (sm_alloc (l := [.d (.p (.int .i64 0)), .d (.p (.int .i64 0)), .d (.p (.int .i64 0)), .d (.p (.int .i64 0))]) 7 inf60 rfl rfl rfl rfl) ?_
       refine AL.y ?_
       apply AL.nil
       try simp only [nd, setL, V.cs, nz, Nat.reduceAdd, nm, ns]
       apply AW.sr
       iterate 2 refine AL.z ?_
       refine AL.call (post := ?pc15) rfl (sm_call (args := [_, _, _]) ?hc15 ⟨Tryd.func58, rfl, rfl, rfl, rfl⟩ rfl rfl rfl rfl) ?_
       case hc15 => first | (refine Fn.decT (am_In _ _ _) ?_; omega) | (refine Fn.decF (am_In _ _ _) ?_; omega) | exact am_In _ _ _
       rintro _ rfl -
       try dsimp only
       iterate 2 refine AL.z ?_
       iterate 2 refine AL.zy ?_
       (refine AL.cally (post := ?pc16) rfl rfl (sm_call (args := [_, _, _]) ?hc16 ⟨Tryd.func58, rfl, rfl, rfl, rfl⟩ rfl rfl rfl rfl) ?_; (case hc16 => (refine Fn.decT (am_In _ _ _) ?_; omega)); rintro _ rfl -; try dsimp only)
       refine AL.zy ?_
       iterate 2 refine AL.z ?_
       iterate 2 refine AL.zy ?_
       (refine AL.cally (post := ?pc17) rfl rfl (sm_call (args := [_, _, _]) ?hc17 ⟨Tryd.func58, rfl, rfl, rfl, rfl⟩ rfl rfl rfl rfl) ?_; (case hc17 => (refine Fn.decF (am_In _ _ _) ?_; omega)); rintro _ rfl -; try dsimp only)
       refine AL.zy ?_
       iterate 2 refine AL.z ?_
       refine AL.no rfl rfl rfl rfl ?_
       refine AL.no rfl rfl rfl rfl ?_
       refine AL.no rfl rfl rfl rfl ?_
       refine AL.no rfl rfl rfl rfl ?_
       refine AL.no rfl rfl rfl rfl ?_
       refine AL.no rfl rfl rfl rfl ?_
       refine AL.z ?_
       apply AL.nil
       try simp only [nd, setL, V.cs, nz, Nat.reduceAdd, nm, ns]
       refine AW.condT rfl ?_
       apply AW.sr
       refine AL.z ?_
       apply AL.nil
       try simp only [nd]
       apply AW.ret
       exact ⟨[_], ⟨rfl, trivial⟩, rfl, by simp [tupOf, V.pure, V.has]⟩
      clear hok
      apply AW.seq
      apply AW.sr
      iterate 4 refine AL.z ?_
      apply AL.nil
      try simp only [nd]
      refine AW.condT rfl ?_
      apply AW.skip
      try simp only [thenS]
      apply AW.seq
      apply AW.block
      apply AW.sr
      iterate 4 refine AL.z ?_
      refine AL.sm rfl (sm_alloc (l := [.d (.p (.int .i64 0)), .d (.p (.int .i64 0)), .d (.p (.int .i64 0)), .d (.p (.int .i64 0))]) 7 inf60 rfl rfl rfl rfl) ?_
      refine AL.y ?_
      apply AL.nil
      try simp only [nd, setL, V.cs, nz, Nat.reduceAdd, nm, ns]
      apply AW.sr
      iterate 2 refine AL.z ?_
      refine AL.call (post := ?pc19) rfl (sm_call (args := [_, _, _]) ?hc19 ⟨Tryd.func58, rfl, rfl, rfl, rfl⟩ rfl rfl rfl rfl) ?_
      case hc19 => first | (refine Fn.decT (am_In _ _ _) ?_; omega) | (refine Fn.decF (am_In _ _ _) ?_; omega) | exact am_In _ _ _
      rintro _ rfl -
      try dsimp only
      iterate 2 refine AL.z ?_
      iterate 2 refine AL.zy ?_
      (refine AL.cally (post := ?pc20) rfl rfl (sm_call (args := [_, _, _]) ?hc20 ⟨Tryd.func58, rfl, rfl, rfl, rfl⟩ rfl rfl rfl rfl) ?_; (case hc20 => (refine Fn.decF (am_In _ _ _) ?_; omega)); rintro _ rfl -; try dsimp only)
      refine AL.zy ?_
      iterate 2 refine AL.z ?_
      refine AL.no rfl rfl rfl rfl ?_
      refine AL.no rfl rfl rfl rfl ?_
      refine AL.no rfl rfl rfl rfl ?_
      refine AL.no rfl rfl rfl rfl ?_
      iterate 2 refine AL.z ?_
      refine AL.no rfl rfl rfl rfl ?_
      refine AL.no rfl rfl rfl rfl ?_
      refine AL.no rfl rfl rfl rfl ?_
      refine AL.no rfl rfl rfl rfl ?_
      refine AL.no rfl rfl rfl rfl ?_
      refine AL.no rfl rfl rfl rfl ?_
      refine AL.z ?_
      apply AL.nil
      try simp only [nd, setL, V.cs, nz, Nat.reduceAdd, nm, ns]
      refine AW.condT rfl ?_
      apply AW.sr
      refine AL.z ?_
      apply AL.nil
      try simp only [nd]
      apply AW.ret
      exact ⟨[_], ⟨rfl, trivial⟩, rfl, by simp [tupOf, V.pure, V.has]⟩
     clear hok
     apply AW.seq
     apply AW.sr
     iterate 4 refine AL.z ?_
     apply AL.nil
     try simp only [nd]
     refine AW.condT rfl ?_
     apply AW.skip
     try simp only [thenS]
     apply AW.seq
     apply AW.block
     apply AW.sr
     iterate 4 refine AL.z ?_
     refine AL.sm rfl (sm_alloc (l := [.d (.p (.int .i64 0)), .d (.p (.int .i64 0)), .d (.p (.int .i64 0)), .d (.p (.int .i64 0))]) 7 inf60 rfl rfl rfl rfl) ?_
     refine AL.y ?_
     apply AL.nil
     try simp only [nd, setL, V.cs, nz, Nat.reduceAdd, nm, ns]
     apply AW.sr
     iterate 2 refine AL.z ?_
     refine AL.call (post := ?pc23) rfl (sm_call (args := [_, _, _]) ?hc23 ⟨Tryd.func58, rfl, rfl, rfl, rfl⟩ rfl rfl rfl rfl) ?_
     case hc23 => first | (refine Fn.decT (am_In _ _ _) ?_; omega) | (refine Fn.decF (am_In _ _ _) ?_; omega) | exact am_In _ _ _
     rintro _ rfl -
     try dsimp only
     iterate 2 refine AL.z ?_
     refine AL.no rfl rfl rfl rfl ?_
     refine AL.no rfl rfl rfl rfl ?_
     refine AL.no rfl rfl rfl rfl ?_
     refine AL.no rfl rfl rfl rfl ?_
     iterate 2 refine AL.z ?_
     refine AL.no rfl rfl rfl rfl ?_
     refine AL.no rfl rfl rfl rfl ?_
     refine AL.no rfl rfl rfl rfl ?_
     refine AL.no rfl rfl rfl rfl ?_
     iterate 2 refine AL.z ?_
     refine AL.no rfl rfl rfl rfl ?_
     refine AL.no rfl rfl rfl rfl ?_
     refine AL.no rfl rfl rfl rfl ?_
     refine AL.no rfl rfl rfl rfl ?_
     refine AL.no rfl rfl rfl rfl ?_
     refine AL.no rfl rfl rfl rfl ?_
     refine AL.z ?_
     apply AL.nil
     try simp only [nd, setL, V.cs, nz, Nat.reduceAdd, nm, ns]
     refine AW.condT rfl ?_
     apply AW.sr
     refine AL.z ?_
     apply AL.nil
     try simp only [nd]
     apply AW.ret
     exact ⟨[_], ⟨rfl, trivial⟩, rfl, by simp [tupOf, V.pure, V.has]⟩
    skip
    apply AW.seq
    apply AW.sr
    iterate 4 refine AL.z ?_
    apply AL.nil
    try simp only [nd]
    refine AW.condF rfl ?_
    refine AW.exit ?_
    try simp only [thenS, inBlockS, ↓reduceIte, Nat.reduceEqDiff]
    apply AW.region
    iterate 3 refine AL.z ?_
    apply AL.nil
    try simp only [nd]
    have hA : x.arcs.all (arOk len) = true := by rwa [List.take_of_length_le zT13] at hall2
    refine ⟨_, ?_, ⟨k + 1, by omega, all_snoc' hx hall (stOk_yes (by simp [finOk]; omega) hA), rfl⟩, ?_⟩
    ·exact Less.a0
    simp [S.nat, fnd]; omega
   have hE : machE ⟨st, sts⟩ = 2 := machE_state hl h60 h400 hx (stOk_fin (by simp [finOk]; omega))
   rw [hE]
   apply AW.seq
   apply AW.sr
   iterate 3 refine AL.z ?_
   apply AL.nil
   try simp only [nd]
   refine AW.condT rfl ?_
   apply AW.skip
   try simp only [thenS]
   apply AW.seq
   apply AW.block
   apply AW.seq
   apply AW.sr
   iterate 6 refine AL.z ?_
   refine AL.call (post := ?pc27) rfl (sm_call (args := [_]) ?hc27 ⟨Tryd.func59, rfl, rfl, rfl, rfl⟩ rfl rfl rfl rfl) ?_
   case hc27 => first | (refine Fn.decT (am_IsWeight _) ?_; omega) | (refine Fn.decF (am_IsWeight _) ?_; omega) | exact am_IsWeight _
   rintro _ rfl -
   try dsimp only
   refine AL.z ?_
   apply AL.nil
   try simp only [nd, setL, V.cs, nz, Nat.reduceAdd, nm, ns]
   refine AW.condT rfl ?_
   apply AW.sr
   refine AL.z ?_
   apply AL.nil
   try simp only [nd]
   apply AW.ret
   exact ⟨[_], ⟨rfl, trivial⟩, rfl, by simp [tupOf, V.pure, V.has]⟩
  skip
  apply AW.seq
  apply AW.sr
  iterate 3 refine AL.z ?_
  apply AL.nil
  try simp only [nd]
  refine AW.condF rfl ?_
  refine AW.exit ?_
  try simp only [thenS, inBlockS, ↓reduceIte, Nat.reduceEqDiff]
  apply AW.sr
  refine AL.z ?_
  apply AL.nil
  try simp only [nd]
  apply AW.ret
  exact ⟨[_], ⟨rfl, trivial⟩, by rw [machE_good hl h60 h400 zT13 hlt hall]; rfl, by simp [tupOf, V.pure, V.has]⟩
 skip
 apply AW.sr
 refine AL.sm rfl (sm_box 1 rfl rfl rfl rfl rfl) ?_
 refine AL.z ?_
 apply AL.nil
 try simp only [nd, setL, V.cs, nz, Nat.reduceAdd, nm, ns, enum]
 apply AW.sr
 iterate 4 refine AL.z ?_
 apply AL.nil
 try simp only [nd]
 apply AW.seq
 apply AW.sr
 iterate 3 refine AL.z ?_
 refine AL.zy ?_
 (refine AL.cally (post := ?pc28) rfl rfl (sm_call (args := [_]) ?hc28 ⟨Tryd.func57, rfl, rfl, rfl, rfl⟩ rfl rfl rfl rfl) ?_; (case hc28 => (exact am_ArcCount ⟨st, sts⟩ (by simp only; omega))); rintro _ rfl -; try dsimp only)
 refine AL.zy ?_
 refine AL.z ?_
 apply AL.nil
 try simp only [nd, setL, V.cs, nz, Nat.reduceAdd, nm, ns]
 refine AW.condF rfl ?_
 apply AW.skip
 try simp only [thenS]
 apply AW.seq
 apply AW.sr
 iterate 4 refine AL.z ?_
 refine AL.call (post := ?pc29) rfl (sm_call (args := [_, _, _]) ?hc29 ⟨Tryd.func58, rfl, rfl, rfl, rfl⟩ rfl rfl rfl rfl) ?_
 case hc29 => first | (refine Fn.decT (am_In _ _ _) ?_; omega) | (refine Fn.decF (am_In _ _ _) ?_; omega) | exact am_In _ _ _
 rintro _ rfl -
 try dsimp only
 refine AL.z ?_
 apply AL.nil
 try simp only [nd, setL, V.cs, nz, Nat.reduceAdd, nm, ns]
 refine AW.condT rfl ?_
 apply AW.sr
 refine AL.z ?_
 apply AL.nil
 try simp only [nd]
 apply AW.ret
 exact ⟨[_], ⟨rfl, trivial⟩, by rw [machE_start hl h60 h400 zT13]; rfl, by simp [tupOf, V.pure, V.has]⟩
theorem decFrom_snoc : ∀ (r : List UInt8) (acc : Nat) (d : UInt8), Lib.decFrom acc (r ++ [d]) = (Lib.decFrom acc r).bind fun m => (Lib.digitVal d).map fun v => m * 10 + v
  | [], acc, d => by
    simp only [List.nil_append, Lib.decFrom, Option.bind_some]
    cases Lib.digitVal d <;> rfl
  | b :: r, acc, d => by
    simp only [List.cons_append, Lib.decFrom]
    cases Lib.digitVal b with
    | none => rfl
    | some v => exact decFrom_snoc r _ d
theorem digits_big {n : Nat} (h : ¬ n < 10) : Lib.decDigits n = Lib.decDigits (n / 10) ++ [UInt8.ofNat (48 + n % 10)] := by rw [Lib.decDigits, dif_neg h]
theorem ofNat_toNat {v : Nat} (h : v < 10) : (UInt8.ofNat (48 + v)).toNat = 48 + v := by
  simp only [UInt8.toNat_ofNat']
  omega
theorem digit_of {v : Nat} (h : v < 10) : Lib.digitVal (UInt8.ofNat (48 + v)) = some v := by
  unfold Lib.digitVal
  rw [ofNat_toNat h, if_pos zT13]
  congr 1
  omega
/-- The digits of a number spell it, with no nought ahead. -/
theorem digits_spell (n : Nat) : Lib.decFrom 0 (Lib.decDigits n) = some n ∧ Lib.decDigits n ≠ [] ∧ (1 ≤ n → (Lib.decDigits n)[0]? ≠ some 48) ∧ (Lib.decDigits n)[0]? ≠ some 45 ∧ (Lib.decDigits n)[0]? ≠ some 43 := by
  induction n using Nat.strongRecOn with
  | _ n ih =>
    by_cases h : n < 10
    · rw [Lib.decDigits_one h]
      refine ⟨?_, by simp, fun h1 h2 => ?_, fun h2 => ?_, fun h2 => ?_⟩
      · simp only [Lib.decFrom, digit_of h]
        simp
      all_goals
        simp only [List.getElem?_cons_zero, Option.some.injEq] at h2
        have := congrArg UInt8.toNat h2
        rw [ofNat_toNat h] at this
        simp at this
        try omega
    obtain ⟨h1, h2, h3, h4, h5⟩ := ih (n / 10) zT13
    rw [digits_big h]
    have h0 : ∀ x : UInt8, (Lib.decDigits (n / 10))[0]? ≠ some x → (Lib.decDigits (n / 10) ++ [UInt8.ofNat (48 + n % 10)])[0]? ≠ some x := fun x hx => by
      rw [List.getElem?_append_left (List.length_pos_iff.2 h2)]
      exact hx
    refine ⟨?_, by simp, fun _ => h0 _ (h3 zT13), h0 _ h4, h0 _ h5⟩
    rw [decFrom_snoc, h1, digit_of zT13]
    simp only [Option.bind_some, Option.map_some, Option.some.injEq]
    omega
theorem digitVal_inv {d : UInt8} {v : Nat} (h : Lib.digitVal d = some v) : v < 10 ∧ d = UInt8.ofNat (48 + v) := by
  unfold Lib.digitVal at h
  split at h
  · rename_i hd
    simp only [Option.some.injEq] at h
    subst h
    refine ⟨by omega, UInt8.toNat_inj.1 ?_⟩
    rw [ofNat_toNat zT13]
    omega
  cases h
theorem digits_len : ∀ (k n : Nat), n < 10 ^ (k + 1) → (Lib.decDigits n).length ≤ k + 1
  | 0, n, h => by rw [Lib.decDigits_one (by simpa using h)]; simp
  | k + 1, n, h => by
    by_cases h10 : n < 10
    · rw [Lib.decDigits_one h10]; simp
    rw [digits_big h10, List.length_append]
    have := digits_len k (n / 10) (by rw [Nat.pow_succ] at h; omega)
    simp only [List.length_cons, List.length_nil]
    omega
theorem digits_byte {n : Nat} {b : UInt8} (h : b ∈ Lib.decDigits n) : 48 ≤ b.toNat ∧ b.toNat ≤ 57 := by
  obtain ⟨k, hk⟩ := List.getElem?_of_mem h
  obtain ⟨d, hd⟩ := Lib.digit_of_decFrom _ 0 n (digits_spell n).1 k b hk
  obtain ⟨h1, rfl⟩ := digitVal_inv hd
  rw [ofNat_toNat h1]
  omega
theorem cut_uniq {c : UInt8} : ∀ {p p' r r' : List UInt8}, c ∉ p → c ∉ p' → p ++ c :: r = p' ++ c :: r' → p = p' ∧ r = r'
  | [], [], r, r', _, _, h => by
    simp only [List.nil_append, List.cons.injEq, true_and] at h
    exact ⟨rfl, h⟩
  | [], b :: p', r, r', _, h2, h => by
    simp only [List.nil_append, List.cons_append, List.cons.injEq] at h
    exact absurd (by rw [h.1]; exact List.mem_cons_self) h2
  | b :: p, [], r, r', h1, _, h => by
    simp only [List.nil_append, List.cons_append, List.cons.injEq] at h
    exact absurd (by rw [← h.1]; exact List.mem_cons_self) h1
  | b :: p, b' :: p', r, r', h1, h2, h => by
    simp only [List.cons_append, List.cons.injEq] at h
    obtain ⟨h3, h4⟩ := cut_uniq (fun hm => h1 (List.mem_cons_of_mem _ hm)) (fun hm => h2 (List.mem_cons_of_mem _ hm)) h.2
    rw [h.1, h3]
    exact ⟨rfl, h4⟩
theorem dec_inj {m n : Nat} (h : Lib.decDigits m = Lib.decDigits n) : m = n := by
  have h1 := (digits_spell m).1
  rw [h, (digits_spell n).1] at h1
  exact (Option.some.inj h1).symm
/-- The key of a set of parts: each part's state, a colon, what is left, a blank. -/
def kyL : List (Nat × Nat) → List UInt8
  | [] => []
  | x :: l => Lib.decDigits x.1 ++ 58 :: (Lib.decDigits x.2 ++ 32 :: kyL l)
theorem kyL_inj : ∀ {l l' : List (Nat × Nat)}, kyL l = kyL l' → l = l'
  | [], [], _ => rfl
  | [], x :: l', h => by
    have := congrArg List.length h
    simp [kyL] at this
  | x :: l, [], h => by
    have := congrArg List.length h
    simp [kyL] at this
  | x :: l, y :: l', h => by
    have hno : ∀ (n : Nat) (c : UInt8), c.toNat < 48 ∨ 57 < c.toNat → c ∉ Lib.decDigits n := fun n c hc hm => by
      have := digits_byte hm
      omega
    obtain ⟨h1, h2⟩ := cut_uniq (hno _ _ (.inr zT12)) (hno _ _ (.inr zT12)) h
    obtain ⟨h3, h4⟩ := cut_uniq (hno _ _ (.inl zT12)) (hno _ _ (.inl zT12)) h2
    have e1 := dec_inj h1
    have e2 := dec_inj h3
    rw [kyL_inj h4, Prod.ext e1 e2]
theorem kyL_app : ∀ (l l' : List (Nat × Nat)), kyL (l ++ l') = kyL l ++ kyL l'
  | [], l' => rfl
  | x :: l, l' => by simp [kyL, kyL_app l l']
/-- A numbering of keys: position by position, the key's place among those that are known. -/
structure Nmb {κ : Type} (known : List κ) (ks : List κ) (out : List Nat) : Prop where
  len : out.length = ks.length
  nd : known.Nodup
  at_ : ∀ (q : Nat) (k : κ) (j : Nat), ks[q]? = some k → out[q]? = some j → known[j]? = some k
  all : ∀ k ∈ known, k ∈ ks
theorem Nmb.iff {κ : Type} {known ks : List κ} {out : List Nat} (h : Nmb known ks out) {q p i j : Nat} {k k' : κ} (h1 : ks[q]? = some k) (h2 : ks[p]? = some k') (h3 : out[q]? = some i) (h4 : out[p]? = some j) : i = j ↔ k = k' := by
  have e1 := h.at_ q k i h1 h3
  have e2 := h.at_ p k' j h2 h4
  constructor
  · rintro rfl
    rw [e1] at e2
    exact Option.some.inj e2
  rintro rfl
  obtain ⟨l1, g1⟩ := List.getElem?_eq_some_iff.1 e1
  obtain ⟨l2, g2⟩ := List.getElem?_eq_some_iff.1 e2
  exact (List.getElem_inj h.nd).1 (g1.trans g2.symm)
theorem drop_mem {l : List Nat} {m : Nat} (h : m ∈ l) : ∃ l', l.length = l'.length + 1 ∧ l.Perm (m :: l') ∧ ∀ j, j ≠ m → j ∈ l → j ∈ l' := by
  obtain ⟨l1, l2, rfl⟩ := List.append_of_mem h
  refine ⟨l1 ++ l2, by simp; omega, List.perm_middle, fun j hj hm => ?_⟩
  rcases List.mem_append.1 hm with hm | hm
  · exact List.mem_append_left _ hm
  rcases List.mem_cons.1 hm with hm | hm
  · exact absurd hm hj
  exact List.mem_append_right _ hm
theorem cover_len : ∀ (m : Nat) (l : List Nat), (∀ j, j < m → j ∈ l) → m ≤ l.length
  | 0, _, _ => Nat.zero_le _
  | m + 1, l, h => by
    obtain ⟨l', h1, _, h3⟩ := drop_mem (h m (Nat.lt_succ_self m))
    have := cover_len m l' fun j hj => h3 j zT13 (h j zT13)
    omega
theorem cover_nodup : ∀ (m : Nat) (l : List Nat), l.length = m → (∀ j, j < m → j ∈ l) → l.Nodup
  | 0, l, h, _ => by rw [List.length_eq_zero_iff.1 h]; exact List.nodup_nil
  | m + 1, l, hl, h => by
    obtain ⟨l', h1, h2, h3⟩ := drop_mem (h m (Nat.lt_succ_self m))
    have hc : ∀ j, j < m → j ∈ l' := fun j hj => h3 j zT13 (h j zT13)
    have hn := cover_nodup m l' zT13 hc
    rw [h2.nodup_iff, List.nodup_cons]
    refine ⟨fun hm => ?_, hn⟩
    have := cover_len (m + 1) l' fun j hj => by
      by_cases e : j = m
      · rw [e]; exact hm
      exact hc j zT13
    omega
theorem map_inj {κ : Type} {g : κ → Nat} : ∀ {l : List κ}, (l.map g).Nodup → ∀ k ∈ l, ∀ k' ∈ l, g k = g k' → k = k'
  | x :: l, h, k, hk, k', hk', e => by
    rw [List.map_cons, List.nodup_cons] at h
    rcases List.mem_cons.1 hk with e1 | m1
    · rcases List.mem_cons.1 hk' with e2 | m2
      · rw [e1, e2]
      exact absurd (by rw [← e1, e]; exact List.mem_map_of_mem m2) h.1
    rcases List.mem_cons.1 hk' with e2 | m2
    · exact absurd (by rw [← e2, ← e]; exact List.mem_map_of_mem m1) h.1
    exact map_inj h.2 k m1 k' m2 e
theorem Nmb.known_of {κ : Type} {known ks : List κ} {out : List Nat} (h : Nmb known ks out) {q : Nat} {k : κ} (hq : ks[q]? = some k) : ∃ j, out[q]? = some j ∧ known[j]? = some k := by
  have hlt : q < out.length := by rw [h.len]; exact (List.getElem?_eq_some_iff.1 hq).1
  exact ⟨_, List.getElem?_eq_getElem hlt, h.at_ q k _ hq (List.getElem?_eq_getElem hlt)⟩
theorem Nmb.cover {κ : Type} {known ks : List κ} {out : List Nat} (h : Nmb known ks out) : ∀ j, j < known.length → j ∈ out := fun j hj => by
  obtain ⟨q, hq⟩ := List.getElem?_of_mem (h.all known[j] (List.getElem_mem hj))
  obtain ⟨i, h1, h2⟩ := h.known_of hq
  obtain ⟨l2, g2⟩ := List.getElem?_eq_some_iff.1 h2
  have : i = j := (List.getElem_inj h.nd).1 g2
  subst this
  exact List.mem_of_getElem? h1
/-- As many classes as before: the same classes. -/
theorem Nmb.same {κ : Type} {known ks : List κ} {out : List Nat} (h : Nmb known ks out) {c : List Nat} (g : κ → Nat) (hc : ∀ (q : Nat) (k : κ), ks[q]? = some k → c[q]? = some (g k)) (hcov : ∀ j, j < known.length → j ∈ c) (hl : c.length = ks.length) {q p i : Nat} (h1 : c[q]? = some i) (h2 : c[p]? = some i) : out[q]? = out[p]? := by
  have hn : (known.map g).Nodup := cover_nodup known.length _ zT14 fun j hj => by
    obtain ⟨r, hr⟩ := List.getElem?_of_mem (hcov j hj)
    have hlt : r < ks.length := by rw [← hl]; exact (List.getElem?_eq_some_iff.1 hr).1
    have hk := List.getElem?_eq_getElem hlt
    have e := hc r _ hk
    rw [hr] at e
    obtain ⟨i', _, hkn⟩ := h.known_of hk
    rw [Option.some.inj e]
    exact List.mem_map_of_mem (List.mem_of_getElem? hkn)
  have lq : q < ks.length := by rw [← hl]; exact (List.getElem?_eq_some_iff.1 h1).1
  have lp : p < ks.length := by rw [← hl]; exact (List.getElem?_eq_some_iff.1 h2).1
  have kq := List.getElem?_eq_getElem lq
  have kp := List.getElem?_eq_getElem lp
  obtain ⟨iq, o1, n1⟩ := h.known_of kq
  obtain ⟨ip, o2, n2⟩ := h.known_of kp
  have e1 := hc q _ kq
  have e2 := hc p _ kp
  rw [h1] at e1
  rw [h2] at e2
  have e : ks[q] = ks[p] := map_inj hn _ (List.mem_of_getElem? n1) _ (List.mem_of_getElem? n2) (Option.some.inj (e1.symm.trans e2))
  rw [o1, o2, (h.iff kq kp o1 o2).2 e]
theorem Nmb.le {κ : Type} {known ks : List κ} {out : List Nat} (h : Nmb known ks out) : known.length ≤ ks.length := by
  rw [← h.len]
  exact cover_len _ _ h.cover
theorem Nmb.lt {κ : Type} {known ks : List κ} {out : List Nat} (h : Nmb known ks out) {q j : Nat} (hj : out[q]? = some j) : j < known.length := by
  have hlt : q < ks.length := by rw [← h.len]; exact (List.getElem?_eq_some_iff.1 hj).1
  exact (List.getElem?_eq_some_iff.1 (h.at_ q _ j (List.getElem?_eq_getElem hlt) hj)).1

section
variable (Init : Nat → Prop) (Edge : Nat → Nat → Prop)
inductive Rch : Nat → Prop
  | init (q : Nat) (h : Init q) : Rch q
  | step (q p : Nat) (h : Rch q) (e : Edge q p) : Rch p
def Just (L : List Bool) (x : Nat) : Prop := Init x ∨ ∃ y, L[y]? = some true ∧ Edge y x
def SoundL (L : List Bool) : Prop := ∀ x, L[x]? = some true → Rch Init Edge x
def ClosedL (L : List Bool) : Prop := ∀ x, x < L.length → Just Init Edge L x → L[x]? = some true
open Classical in
noncomputable def rchL (n : Nat) : List Bool := (List.range n).map fun q => decide (Rch Init Edge q)
variable {Init : Nat → Prop} {Edge : Nat → Nat → Prop} {L : List Bool} {n : Nat}
theorem rchL_len : (rchL Init Edge n).length = n := by simp [rchL]
theorem rchL_get {q : Nat} (hq : q < n) : (rchL Init Edge n)[q]? = some true ↔ Rch Init Edge q := by
  simp [rchL, List.getElem?_map, List.getElem?_range hq]
/-- Sound and closed: it is the set. (Nothing outside is reached from inside.) -/
theorem rch_done (hl : L.length = n) (hin : ∀ x, Rch Init Edge x → x < n) (hs : SoundL Init Edge L) (hc : ClosedL Init Edge L) : L = rchL Init Edge n := by
  have hR : ∀ x, Rch Init Edge x → L[x]? = some true := by
    intro x hx
    induction hx with
    | init q h => exact hc q (by rw [hl]; exact hin q (.init q h)) (.inl h)
    | step q p h e ih => exact hc p (by rw [hl]; exact hin p (.step q p h e)) (.inr ⟨q, ih, e⟩)
  refine List.ext_getElem? fun q => ?_
  by_cases hq : q < n
  · have h1 := rchL_get (Init := Init) (Edge := Edge) hq
    have hlt : q < L.length := by omega
    have hlt' : q < (rchL Init Edge n).length := by rw [rchL_len]; exact hq
    rw [List.getElem?_eq_getElem hlt, List.getElem?_eq_getElem hlt'] at *
    have h2 : L[q] = true → Rch Init Edge q := fun h => hs q (by rw [List.getElem?_eq_getElem hlt, h])
    have h3 : Rch Init Edge q → L[q] = true := fun h => by have := hR q h; rw [List.getElem?_eq_getElem hlt] at this; simpa using this
    have h4 : (rchL Init Edge n)[q] = true ↔ Rch Init Edge q := by simpa using h1
    congr 1
    cases h5 : L[q] <;> cases h6 : (rchL Init Edge n)[q]
    · rfl
    · exact absurd (h3 (h4.1 h6)) (by simp [h5])
    · exact absurd (h4.2 (h2 h5)) (by simp [h6])
    rfl
  rw [List.getElem?_eq_none zT13, List.getElem?_eq_none (by rw [rchL_len]; omega)]
theorem set_true_get {x y : Nat} (h : L[y]? = some true) : (L.set x true)[y]? = some true := by
  rw [List.getElem?_set]
  split
  · rename_i e
    subst e
    rw [if_pos (List.getElem?_eq_some_iff.1 h).1]
  exact h
theorem set_true_inv {x y : Nat} (h : (L.set x true)[y]? = some true) : y = x ∨ L[y]? = some true := by
  rw [List.getElem?_set] at h
  split at h
  · rename_i e; exact .inl e.symm
  exact .inr h
theorem set_same {x : Nat} (h : L[x]? = some true) : L.set x true = L := by
  refine List.ext_getElem? fun y => ?_
  rw [List.getElem?_set]
  split
  · rename_i e
    subst e
    rw [if_pos (List.getElem?_eq_some_iff.1 h).1, h]
  rfl
theorem count_set : ∀ (L : List Bool) {x : Nat}, L[x]? = some false → (L.set x true).count true = L.count true + 1 ∧ (L.set x true).count false + 1 = L.count false
  | [], x, h => by simp at h
  | b :: L, 0, h => by simp at h; subst h; simp
  | b :: L, x + 1, h => by
    have := count_set L (x := x) (by simpa using h)
    cases b <;> simp <;> omega
theorem sound_set {x : Nat} (hs : SoundL Init Edge L) (hj : Just Init Edge L x) : SoundL Init Edge (L.set x true) := by
  intro y hy
  rcases set_true_inv hy with rfl | h
  · rcases hj with h | ⟨z, h1, h2⟩
    · exact .init _ h
    exact .step _ _ (hs z h1) h2
  exact hs y h
/-- In rounds: all is closed, or this round has found one more, or it has found nothing and D is done. -/
def Rnd (Init : Nat → Prop) (Edge : Nat → Nat → Prop) (n k : Nat) (D : List Bool → Prop) (L : List Bool) : Prop := L.length = n ∧ SoundL Init Edge L ∧ (ClosedL Init Edge L ∨ k + 1 ≤ L.count true ∨ k ≤ L.count true ∧ D L)
theorem Rnd.skip {k : Nat} {D D' : List Bool → Prop} (h : Rnd Init Edge n k D L) (hd : D L → D' L) : Rnd Init Edge n k D' L := by
  obtain ⟨h1, h2, h3⟩ := h
  exact ⟨h1, h2, h3.imp_right (Or.imp_right fun h => ⟨h.1, hd h.2⟩)⟩
theorem Rnd.set {k x : Nat} {D D' : List Bool → Prop} (h : Rnd Init Edge n k D L) (hx : x < n) (hj : Just Init Edge L x) (hd : L[x]? = some true → D L → D' L) : Rnd Init Edge n k D' (L.set x true) := by
  obtain ⟨h1, h2, h3⟩ := h
  have hlt : x < L.length := by omega
  by_cases hb : L[x]? = some true
  · rw [set_same hb]
    exact ⟨h1, h2, h3.imp_right (Or.imp_right fun h => ⟨h.1, hd hb h.2⟩)⟩
  have hf : L[x]? = some false := by
    rw [List.getElem?_eq_getElem hlt] at hb ⊢
    cases h : L[x] <;> simp_all
  have hc := (count_set L hf).1
  refine ⟨by simpa using h1, sound_set h2 hj, .inr (.inl ?_)⟩
  rcases h3 with h3 | h3 | h3
  · exact absurd (h3 x hlt hj) hb
  · omega
  omega
theorem Rnd.next {k : Nat} {D D' : List Bool → Prop} (h : Rnd Init Edge n k D L) (hd : D L → ClosedL Init Edge L) (h0 : ∀ L, D' L) : Rnd Init Edge n (k + 1) D' L := by
  obtain ⟨h1, h2, h3⟩ := h
  refine ⟨h1, h2, ?_⟩
  rcases h3 with h3 | h3 | h3
  · exact .inl h3
  · exact .inr (.inr ⟨h3, h0 L⟩)
  exact .inl (hd h3.2)
theorem Rnd.done {k : Nat} {D : List Bool → Prop} (h : Rnd Init Edge n k D L) (hk : n < k) (hin : ∀ x, Rch Init Edge x → x < n) : L = rchL Init Edge n := by
  obtain ⟨h1, h2, h3⟩ := h
  have hc : L.count true ≤ n := by rw [← h1]; exact List.count_le_length
  refine rch_done h1 hin h2 ?_
  rcases h3 with h3 | h3 | h3
  · exact h3
  · omega
  omega
theorem Rnd.start {D : List Bool → Prop} (h0 : ∀ L, D L) : Rnd Init Edge n 0 D (List.replicate n false) :=
  ⟨by simp, fun x hx => by simp [List.getElem?_replicate] at hx, .inr (.inr ⟨by omega, h0 _⟩)⟩
/-- By a list of what is still to do. -/
structure Fld (Init : Nat → Prop) (Edge : Nat → Nat → Prop) (n : Nat) (X : Nat → Prop) (L : List Bool) (todo : List Nat) : Prop where
  len : L.length = n
  sound : SoundL Init Edge L
  sub : ∀ x ∈ todo, L[x]? = some true
  edge : ∀ x p, L[x]? = some true → x ∉ todo → ¬ X x → Edge x p → p < n → L[p]? = some true
theorem Fld.done {todo : List Nat} {X : Nat → Prop} (h : Fld Init Edge n X L todo) (ht : todo = []) (hX : ∀ x, ¬ X x) (hi : ∀ x, Init x → L[x]? = some true) (hin : ∀ x, Rch Init Edge x → x < n) : L = rchL Init Edge n :=
  rch_done h.len hin h.sound fun x hx hj => by
    rcases hj with hj | ⟨y, h1, h2⟩
    · exact hi x hj
    exact h.edge y x h1 (by simp [ht]) (hX y) h2 (by rw [← h.len]; exact hx)
/-- The last of the list is taken. -/
theorem Fld.take {todo : List Nat} {q : Nat} (h : Fld Init Edge n (fun _ => False) L (todo ++ [q])) : L[q]? = some true ∧ Fld Init Edge n (fun x => x = q) L todo :=
  ⟨h.sub q zT14, h.len, h.sound, fun x hx => h.sub x (by simp [hx]), fun x p h1 h2 h3 h4 h5 => h.edge x p h1 (by simp [h2]; exact h3) zT14 h4 h5⟩
theorem Fld.push {todo : List Nat} {q p : Nat} (h : Fld Init Edge n (fun x => x = q) L todo) (hq : L[q]? = some true) (he : Edge q p) (hp : L[p]? = some false) : Fld Init Edge n (fun x => x = q) (L.set p true) (todo ++ [p]) := by
  have hpn : p < L.length := (List.getElem?_eq_some_iff.1 hp).1
  refine ⟨by simpa using h.len, sound_set h.sound (.inr ⟨q, hq, he⟩), fun x hx => ?_, fun x r h1 h2 h3 h4 h5 => ?_⟩
  · rcases List.mem_append.1 hx with h1 | h1
    · exact set_true_get (h.sub x h1)
    obtain rfl : x = p := by simpa using h1
    rw [List.getElem?_set_self hpn]
  have hxp : x ≠ p := by rintro rfl; exact h2 zT14
  rcases set_true_inv h1 with e | h1
  · exact absurd e hxp
  exact set_true_get (h.edge x r h1 (fun hm => h2 (by simp [hm])) h3 h4 h5)
theorem Fld.start {todo : List Nat} (hl : L.length = n) (h1 : ∀ x, L[x]? = some true ↔ x ∈ todo) (h2 : ∀ x ∈ todo, Init x) : Fld Init Edge n (fun _ => False) L todo :=
  ⟨hl, fun x hx => .init x (h2 x ((h1 x).1 hx)), fun x hx => (h1 x).2 hx, fun x p h3 h4 _ _ _ => absurd ((h1 x).1 h3) h4⟩
end
theorem arcN_mem : ∀ (l : List St) (s : St), s ∈ l → s.arcs.length ≤ arcN l
  | [], s, h => by cases h
  | y :: l, s, h => by
    rcases List.mem_cons.1 h with rfl | h
    · simp [arcN]
    have := arcN_mem l s h
    simp [arcN] at this ⊢
    omega
abbrev arV2 (a : Ar) : List V := (arD a).map V.d
abbrev stV2 (s : St) : List V := (stD s).map V.d
abbrev encN (x : Nat) : List D := [.p (.int .i64 (x : Int))]
def bl {α : Type} (g : Nat → α) (n : Nat) : List α := (List.range n).map g
theorem bl_len {α : Type} (g : Nat → α) (n : Nat) : (bl g n).length = n := by simp [bl]
theorem bl_get {α : Type} {g : Nat → α} {n q : Nat} (h : q < n) : (bl g n)[q]? = some (g q) := by simp [bl, List.getElem?_range h]
theorem bl_inv {α : Type} {g : Nat → α} {n q : Nat} {x : α} (h : (bl g n)[q]? = some x) : q < n ∧ x = g q := by
  have hq : q < n := by have := (List.getElem?_eq_some_iff.1 h).1; simpa [bl] using this
  rw [bl_get hq] at h
  exact ⟨hq, by simpa using h.symm⟩
theorem bl_set {α : Type} {g g' : Nat → α} {n p : Nat} {x : α} (h : p < n) (hx : g' p = x) (ho : ∀ q, q < n → q ≠ p → g q = g' q) : (bl g n).set p x = bl g' n := by
  refine List.ext_getElem? fun i => ?_
  rw [List.getElem?_set]
  by_cases e : p = i
  · subst e
    rw [if_pos rfl, if_pos (by rw [bl_len]; exact h), bl_get h, hx]
  rw [if_neg e]
  by_cases hi : i < n
  · rw [bl_get hi, bl_get hi, ho i hi (Ne.symm e)]
  rw [List.getElem?_eq_none (by rw [bl_len]; omega), List.getElem?_eq_none (by rw [bl_len]; omega)]
theorem bl_congr {α : Type} {g g' : Nat → α} {n : Nat} (h : ∀ q, q < n → g q = g' q) : bl g n = bl g' n := List.map_congr_left fun q hq => h q (List.mem_range.1 hq)
def stA (sts : List St) (q : Nat) : List Ar := (sts.getD q ⟨0, []⟩).arcs
theorem stA_of {sts : List St} {q : Nat} {x : St} (h : sts[q]? = some x) : stA sts q = x.arcs := by simp [stA, List.getD_eq_getElem?_getD, h]
theorem bokS : BOk 77 := ⟨Nat.le_of_ble_eq_true zT10, Nat.le_of_ble_eq_true zT10, by kernel_rfl⟩
theorem lwN {K : List V} (hk : V.lowL 901 K = true) : Lw [] K := ⟨fun y hy => (by cases hy), hk⟩
theorem lwR {r : Nat} {row : Row} {K : List V} (hr : r < 900) (hrow : V.lowL 901 row.cells = true) (hk : V.lowL 901 K = true) : Lw [(r, row)] K := ⟨fun y hy => by
 rw [List.mem_singleton] at hy
 subst hy
 exact ⟨hr, hrow⟩, hk⟩
/-- As PC, of a function value with what it has captured, under a premise on the world. -/
def PCV (Pre : World → Prop) (P : Program) (f : FuncId) (caps args : List V) (H : List (Nat × Row)) (K : List V) (post : V → List (Nat × Row) → List V → Prop) : Prop :=
 ∀ (c : Cx) (s : S) (o : Oper) (fx : Operand) (xs : Array Operand) (tys : Array TypeId) (l : List Nat) (ts : List V), Pre c.w0 → c.P = P → o.op = .call { callee := .value fx, args := xs, argTypes := tys } → s.ev fx = some (.fn f caps) → xs.toList.map s.ev = args.map some →
  l.map (fun i => fnd s.T i) = ts.map some → s.H = H → ts ++ s.K = K → dok s o = true → Step c o s (fun s' => ∃ v H' K', post v H' K' ∧ s' = back s l o.dst v H' K')
theorem PCV.intro {Pre : World → Prop} {P : Program} {f : FuncId} {fn : Func} {code : Code} {n : Nat} {rs : List ResultVar} {caps args : List V} {H : List (Nat × Row)} {K : List V} {post : V → List (Nat × Row) → List V → Prop} (hf : Is P f fn code n rs) (hn : args.length + caps.length ≤ n)
  (h : ∀ w0 out kx, Pre w0 → AW ⟨P, w0, out, kx, []⟩ code (QP P rs post) ⟨n, enum 0 (args ++ caps), H, K⟩) : PCV Pre P f caps args H K post := by
 intro c s o fx xs tys l ts hpre hP ho hfx hargs hts hH hK hd
 subst hP hH hK
 exact st_inline l hts hf ho hfx hargs hn hd fun kx => (h c.w0 c.out kx hpre).mono fun e s1 hq => hq.toQI
section
variable {c : Cx} {s : S} {o : Oper} {Q : Exit → S → Prop} {ops : Array Oper} {rest : List Oper}
end
abbrev ptD (x : Nat × Nat) : List D := [.p (.int .i64 (x.1 : Int)), .p (.int .i64 (x.2 : Int))]
abbrev ptsD (l : List (Nat × Nat)) : D := .sl 2 16 (l.map ptD)
def kyS (l : List (Nat × Nat)) : ByteArray := ⟨(kyL l).toArray⟩
theorem kyS_inj {l l' : List (Nat × Nat)} (h : kyS l = kyS l') : l = l' := by
 unfold kyS at h
 simp only [ByteArray.mk.injEq] at h
 exact kyL_inj (by simpa using h)
theorem kyS_snoc (l : List (Nat × Nat)) (x : Nat × Nat) : kyS l ++ (decS x.1 ++ ⟨#[58]⟩ ++ decS x.2 ++ ⟨#[32]⟩) = kyS (l ++ [x]) := by
 unfold kyS decS
 have h1 : (⟨#[32]⟩ : ByteArray) = ⟨[(32 : UInt8)].toArray⟩ := rfl
 have h2 : (⟨#[58]⟩ : ByteArray) = ⟨[(58 : UInt8)].toArray⟩ := rfl
 rw [kyL_app, h1, h2, ByteArray.mk_append_mk, ByteArray.mk_append_mk, ByteArray.mk_append_mk, ByteArray.mk_append_mk]
 congr 1
 simp [kyL]
theorem decS_lenK {n : Nat} (h : n ≤ 1000000000000) : (decS n).size ≤ 13 ∧ 0 < (decS n).size := by
 have hd := digits_len 12 n zT13
 have hp := List.length_pos_iff.2 (digits_spell n).2.1
 have : (decS n).size = (Lib.decDigits n).length := by simp [decS, ByteArray.size]
 omega
/-- Parts of a set that are not too large. -/
def ptOk (x : Nat × Nat) : Prop := x.1 ≤ 1000 ∧ x.2 ≤ 1000000000000
theorem am_ItoaN (n : Nat) (h : n ≤ 1000000000000) : FnP preT Tryd.prog 27 [.i (n : Int)] (fun v => v = .s (decS n)) :=
 FnP.ofCalls (xs := [.int .i64 (n : Int)]) (y := .string (decS n)) (fun w hw => (itoa_call (n : Int) zT13 zT13 w hw).mono fun e w' ⟨he, k, os, hw'⟩ => ⟨by
  rw [he]
  have : (⟨(Lib.itoa (n : Int)).toArray⟩ : ByteArray) = decS n := by unfold Lib.itoa decS; rw [if_neg zT13]; simp only [Int.toNat_natCast]
  rw [this], by rw [hw']; exact grow_below _ _ _⟩) (fun _ _ _ zs h => by
  obtain ⟨h1, h2⟩ := h
  match zs, h1, h2 with
  | [z], _, h2 => rw [VRep.p_eq (h2 0 _ z rfl rfl)]) (fun _ _ _ => .d _ _ (.p _)) zT8
theorem lw5K (a b : Nat) {K : List V} (hk : V.lowL 901 K = true) : Lw [(5, ⟨39, [.i (a : Int), .i (b : Int)], false, 0⟩)] K := lwR zT12 rfl hk
theorem am_key (l : List (Nat × Nat)) (hl : l.length ≤ 1000) (hb : ∀ x ∈ l, ptOk x) : FnP preT Tryd.prog 9 [.d (ptsD l)] (fun v => v = .s (kyS l)) := by
 obtain ⟨n, hn⟩ : ∃ n, l.length = n := ⟨_, rfl⟩
 rw [hn] at hl
 refine FnP.intro (n := 24) ⟨Tryd.func9, rfl, rfl, rfl, rfl⟩ zT8 zT14 fun w0 out hpre => ?_
 apply AW.sr
 refine AL.z ?_
 apply AL.nil
 try simp only [thenS, S.put, enum, List.nil_append, List.cons_append, List.append_nil, Nat.zero_add, Nat.reduceAdd]
 apply AW.sr
 refine AL.sm rfl (sm_alloc (l := [.d (.p (.pointer none)), .d (.p (.slice none 0 0))]) 900 inf77 rfl rfl rfl rfl) ?_
 apply AL.nil
 try simp only [nd, setL, V.cs, nz, Nat.reduceAdd, nm, ns]
 apply AW.seq
 apply AW.seq
 refine AW.adoptH 900 1 901 1 5 rfl rfl rfl (by simp [S.clean, V.has, V.hasL, V.cs, setL]) ?_
 apply AW.region
 iterate 3 refine AL.z ?_
 apply AL.nil
 try simp only [nd]
 apply AW.block
 refine AW.loop (fun s' => ∃ (k : Nat) (a z : Bool), k ≤ n ∧ (kyS (l.take k)).size ≤ 2000 * k ∧ (z = true ↔ (kyS (l.take k)).size = 0) ∧ s' = ⟨24, [(3, .ref 900 0), (6, .d (ptsD l)), (7, .i n), (8, .i k)], bH 77 a z (kyS (l.take k)) [], []⟩) (fun s' => n - s'.nat 8) ⟨_, ?_, 0, false, true, by omega, Nat.le_refl 0, ⟨fun _ => rfl, fun _ => rfl⟩, rfl⟩ ?_
 ·exact Less.a0
 rintro s' ⟨k, a, z, hk, hsz, hz, rfl⟩
 by_cases hlt : k < n
 ·obtain ⟨x, hx⟩ := get_lt hn hlt
  obtain ⟨b1, b2⟩ := hb x (List.mem_of_getElem? hx)
  have hsn : kyS (l.take (k + 1)) = kyS (l.take k) ++ (decS x.1 ++ ⟨#[58]⟩ ++ decS x.2 ++ ⟨#[32]⟩) := by rw [kyS_snoc, take_snoc hx]
  obtain ⟨p, q⟩ := x
  simp only at b1 b2 hsn
  have z1 := decS_lenK (n := p) zT13
  have z2 := decS_lenK (n := q) b2
  have hit := am_ItoaN p zT13
  have hit2 := am_ItoaN q b2
  have hs32 : (⟨#[32]⟩ : ByteArray).size = 1 := rfl
  have hs58 : (⟨#[58]⟩ : ByteArray).size = 1 := rfl
  have z0 : 0 < (decS p ++ ⟨#[58]⟩ ++ decS q ++ ⟨#[32]⟩).size ∧ (decS p ++ ⟨#[58]⟩ ++ decS q ++ ⟨#[32]⟩).size ≤ 100 := by
   simp only [ByteArray.size_append]
   omega
  cases a
  ·simp only [bH]
   apply AW.sr
   refine AL.z ?_
   apply AL.nil
   try simp only [nd]
   apply AW.seq
   refine AW.condT rfl ?_
   apply AW.skip
   try simp only [thenS]
   apply AW.seq
   apply AW.block
   apply AW.sr
   iterate 2 refine AL.z ?_
   refine AL.sm rfl (sm_alloc (l := [.d (.p (.int .i64 0)), .d (.p (.int .i64 0))]) 5 inf39 rfl (by simp [S.clean, S.put, S.newObj, S.forget, V.has, V.hasL, junkIf, setL, V.cs, hasL_i, strV_has, hasL_d, hasL_b, hasL_s, hasL_n, hasL_rep, hasL_flat, hasL_append, -List.map_set]) rfl rfl) ?_
   refine AL.y ?_
   apply AL.nil
   try simp only [nd, setL, V.cs, nz, Nat.reduceAdd, nm, ns]
   refine AW.less (s' := ⟨24, [(3, .ref 900 0), (6, .d (ptsD l)), (7, .i n), (8, .i k), (5, .ref 5 0)], bH 77 false z (kyS (l.take k)) [(5, ⟨39, [.i (p : Int), .i (q : Int)], false, 0⟩)], []⟩) Less.a0 ?_
   refine AW.drawF [(0, 2), (1, 1), (4, 2), (5, 1), (2, 0), (3, 2), (6, 0), (7, 2), (8, 2), (9, 0)] (fun i => !([9] : List Nat).contains i) 10 zT10 zT10 rfl zT10 ?_
   refine AF1.rp rfl rfl rfl (fun _ _ h => h) (rp_field_ref Tryd.underlying39 rfl rfl rfl inf3 zT12 rfl) ?_
   refine AF1.rd rfl rfl rfl (fun _ _ h => h) (rd_load_ref Tryd.underlying3 rfl rfl rfl rfl rfl rfl) ?_
   refine AF1.rp rfl rfl rfl (fun _ _ h => h) (rp_field_ref Tryd.underlying39 rfl rfl rfl inf3 zT12 rfl) ?_
   refine AF1.rd rfl rfl rfl (fun _ _ h => h) (rd_load_ref Tryd.underlying3 rfl rfl rfl rfl rfl rfl) ?_
   refine AF1.go ?_
   refine AF2.call (post := ?pc0) rfl rfl (sm_callP (args := [_]) (tab_kept _ _ _ _) zT11 ?hc0 ⟨Tryd.func27, rfl, rfl, rfl, rfl⟩ rfl rfl rfl rfl) ?_
   case hc0 => exact hit
   rintro _ rfl -
   try dsimp only
   refine AF2.rp rfl rfl rfl (fun _ _ h => h) (rp_adds rfl rfl rfl (by first | assumption | omega | (simp only [ByteArray.size_append]; omega))) ?_
   refine AF2.call (post := ?pc1) rfl rfl (sm_callP (args := [_]) (tab_kept _ _ _ _) zT11 ?hc1 ⟨Tryd.func27, rfl, rfl, rfl, rfl⟩ rfl rfl rfl rfl) ?_
   case hc1 => exact hit2
   rintro _ rfl -
   try dsimp only
   refine AF2.rp rfl rfl rfl (fun _ _ h => h) (rp_adds rfl rfl rfl (by first | assumption | omega | (simp only [ByteArray.size_append]; omega))) ?_
   refine AF2.rp rfl rfl rfl (fun _ _ h => h) (rp_adds rfl rfl rfl (by first | assumption | omega | (simp only [ByteArray.size_append]; omega))) ?_
   refine AF2.go ?_
   try simp only [S.put, S.newObj, setL, V.cs, nz, Nat.zero_add, Nat.reduceAdd]
   refine AF3.pc rfl rfl [3, 6, 7, 8] (ts := [_, _, _, _]) (args := [_, _]) (post := ?pc2) ?hc2 rfl rfl rfl rfl rfl rfl rfl rfl rfl ?_
   case hc2 => (refine pc_WriteString bokS false z (kyS (l.take k)) (decS p ++ ⟨#[58]⟩ ++ decS q ++ ⟨#[32]⟩) (lw5K p q ?_) z0.1 zT13 <;> first | rfl | (simp [V.lowL, V.low]; done))
   rintro _ _ _ ⟨rfl, rfl, rfl⟩
   simp only [back, S.put, List.cons_append, List.nil_append, List.zip_cons_cons, List.zip_nil_left, List.drop_succ_cons, List.drop_zero, List.length_cons, List.length_nil, Nat.zero_add, Nat.reduceAdd]
   refine AF3.nil ?_
   try simp only [nd, setL, V.cs, nz, Nat.reduceAdd, nm, ns]
   apply AW.region
   iterate 2 refine AL.z ?_
   apply AL.nil
   try simp only [nd]
   refine ⟨_, ?_, ⟨k + 1, true, false, by omega, by rw [hsn, ByteArray.size_append]; omega, ⟨fun h => (by cases h), fun h => by rw [hsn, ByteArray.size_append] at h; omega⟩, rfl⟩, ?_⟩
   ·rw [hsn]
    exact Less.a0
   simp [S.nat, fnd]; omega
  simp only [bH]
  apply AW.sr
  refine AL.z ?_
  apply AL.nil
  try simp only [nd]
  apply AW.seq
  refine AW.condT rfl ?_
  apply AW.skip
  try simp only [thenS]
  apply AW.seq
  apply AW.block
  apply AW.sr
  iterate 2 refine AL.z ?_
  refine AL.sm rfl (sm_alloc (l := [.d (.p (.int .i64 0)), .d (.p (.int .i64 0))]) 5 inf39 rfl (by simp [S.clean, S.put, S.newObj, S.forget, V.has, V.hasL, junkIf, setL, V.cs, hasL_i, strV_has, hasL_d, hasL_b, hasL_s, hasL_n, hasL_rep, hasL_flat, hasL_append, -List.map_set]) rfl rfl) ?_
  refine AL.y ?_
  apply AL.nil
  try simp only [nd, setL, V.cs, nz, Nat.reduceAdd, nm, ns]
  refine AW.less (s' := ⟨24, [(3, .ref 900 0), (6, .d (ptsD l)), (7, .i n), (8, .i k), (5, .ref 5 0)], bH 77 true z (kyS (l.take k)) [(5, ⟨39, [.i (p : Int), .i (q : Int)], false, 0⟩)], []⟩) Less.a0 ?_
  refine AW.drawF [(0, 2), (1, 1), (4, 2), (5, 1), (2, 0), (3, 2), (6, 0), (7, 2), (8, 2), (9, 0)] (fun i => !([9] : List Nat).contains i) 10 zT10 zT10 rfl zT10 ?_
  refine AF1.rp rfl rfl rfl (fun _ _ h => h) (rp_field_ref Tryd.underlying39 rfl rfl rfl inf3 zT12 rfl) ?_
  refine AF1.rd rfl rfl rfl (fun _ _ h => h) (rd_load_ref Tryd.underlying3 rfl rfl rfl rfl rfl rfl) ?_
  refine AF1.rp rfl rfl rfl (fun _ _ h => h) (rp_field_ref Tryd.underlying39 rfl rfl rfl inf3 zT12 rfl) ?_
  refine AF1.rd rfl rfl rfl (fun _ _ h => h) (rd_load_ref Tryd.underlying3 rfl rfl rfl rfl rfl rfl) ?_
  refine AF1.go ?_
  refine AF2.call (post := ?pc3) rfl rfl (sm_callP (args := [_]) (tab_kept _ _ _ _) zT11 ?hc3 ⟨Tryd.func27, rfl, rfl, rfl, rfl⟩ rfl rfl rfl rfl) ?_
  case hc3 => exact hit
  rintro _ rfl -
  try dsimp only
  refine AF2.rp rfl rfl rfl (fun _ _ h => h) (rp_adds rfl rfl rfl (by first | assumption | omega | (simp only [ByteArray.size_append]; omega))) ?_
  refine AF2.call (post := ?pc4) rfl rfl (sm_callP (args := [_]) (tab_kept _ _ _ _) zT11 ?hc4 ⟨Tryd.func27, rfl, rfl, rfl, rfl⟩ rfl rfl rfl rfl) ?_
  case hc4 => exact hit2
  rintro _ rfl -
  try dsimp only
  refine AF2.rp rfl rfl rfl (fun _ _ h => h) (rp_adds rfl rfl rfl (by first | assumption | omega | (simp only [ByteArray.size_append]; omega))) ?_
  refine AF2.rp rfl rfl rfl (fun _ _ h => h) (rp_adds rfl rfl rfl (by first | assumption | omega | (simp only [ByteArray.size_append]; omega))) ?_
  refine AF2.go ?_
  try simp only [S.put, S.newObj, setL, V.cs, nz, Nat.zero_add, Nat.reduceAdd]
  refine AF3.pc rfl rfl [3, 6, 7, 8] (ts := [_, _, _, _]) (args := [_, _]) (post := ?pc5) ?hc5 rfl rfl rfl rfl rfl rfl rfl rfl rfl ?_
  case hc5 => (refine pc_WriteString bokS true z (kyS (l.take k)) (decS p ++ ⟨#[58]⟩ ++ decS q ++ ⟨#[32]⟩) (lw5K p q ?_) z0.1 zT13 <;> first | rfl | (simp [V.lowL, V.low]; done))
  rintro _ _ _ ⟨rfl, rfl, rfl⟩
  simp only [back, S.put, List.cons_append, List.nil_append, List.zip_cons_cons, List.zip_nil_left, List.drop_succ_cons, List.drop_zero, List.length_cons, List.length_nil, Nat.zero_add, Nat.reduceAdd]
  refine AF3.nil ?_
  try simp only [nd, setL, V.cs, nz, Nat.reduceAdd, nm, ns]
  apply AW.region
  iterate 2 refine AL.z ?_
  apply AL.nil
  try simp only [nd]
  refine ⟨_, ?_, ⟨k + 1, true, false, by omega, by rw [hsn, ByteArray.size_append]; omega, ⟨fun h => (by cases h), fun h => by rw [hsn, ByteArray.size_append] at h; omega⟩, rfl⟩, ?_⟩
  ·rw [hsn]
   exact Less.a0
  simp [S.nat, fnd]; omega
 have hkn : k = n := by omega
 have hfull : l.take k = l := List.take_of_length_le zT13
 rw [hfull] at hsz hz ⊢
 apply AW.sr
 refine AL.z ?_
 apply AL.nil
 try simp only [nd]
 apply AW.seq
 refine AW.condF rfl ?_
 refine AW.exit ?_
 try simp only [thenS, inBlockS, ↓reduceIte, Nat.reduceEqDiff]
 apply AW.sr
 try simp only [S.put, S.newObj, setL, V.cs, nz, Nat.zero_add, Nat.reduceAdd]
 refine AL.pc [] (ts := []) (args := [_]) (post := ?pc6) ?hc6 rfl rfl rfl rfl rfl rfl rfl rfl rfl ?_
 case hc6 => (refine pc_String z (kyS l) a (lwN ?_) hz zT13 <;> first | rfl | (simp [V.lowL, V.low]; done))
 rintro _ _ _ ⟨rfl, rfl, rfl⟩
 simp only [back, S.put, List.cons_append, List.nil_append, List.zip_cons_cons, List.zip_nil_left, List.drop_succ_cons, List.drop_zero, List.length_cons, List.length_nil, Nat.zero_add, Nat.reduceAdd]
 refine AL.z ?_
 apply AL.nil
 try simp only [nd]
 apply AW.ret
 exact ⟨[_], ⟨rfl, trivial⟩, rfl, by simp [tupOf, V.pure, V.has, V.hasL]⟩
/-- More than any path costs. -/
def big : Nat := 1152921504606846976
theorem big_eq : big = 1152921504606846976 := rfl
section
variable (Init : Nat → Nat → Prop) (Edge : Nat → Nat → Nat → Prop)
inductive Pth : Nat → Nat → Prop
  | init (q d : Nat) (h : Init q d) : Pth q d
  | step (q p d w : Nat) (h : Pth q d) (e : Edge q p w) : Pth p (d + w)
/-- What holds of costs all the time. -/
structure Snd (n : Nat) (L : List Nat) : Prop where
  len : L.length = n
  le : ∀ (q x : Nat), L[q]? = some x → x ≤ big
  path : ∀ (q x : Nat), L[q]? = some x → x < big → Pth Init Edge q x
  init : ∀ (q x d : Nat), L[q]? = some x → Init q d → x ≤ d
/-- The least costs. -/
def Lst (n : Nat) (L : List Nat) : Prop := Snd Init Edge n L ∧ ∀ (q x d : Nat), L[q]? = some x → Pth Init Edge q d → x ≤ d
open Classical in
noncomputable def dst (q : Nat) : Nat := if h : ∃ d, d < big ∧ Pth Init Edge q d then Classical.choose (least_nat h) else big
noncomputable def dstL (n : Nat) : List Nat := (List.range n).map (dst Init Edge)
variable {Init : Nat → Nat → Prop} {Edge : Nat → Nat → Nat → Prop} {n : Nat} {L L' : List Nat}
theorem dst_spec (q : Nat) : dst Init Edge q ≤ big ∧ (dst Init Edge q < big → Pth Init Edge q (dst Init Edge q)) ∧ ∀ d, Pth Init Edge q d → dst Init Edge q ≤ d := by
  unfold dst
  split
  · rename_i h
    obtain ⟨⟨h1, h2⟩, h3⟩ := Classical.choose_spec (least_nat h)
    refine ⟨Nat.le_of_lt h1, fun _ => h2, fun d hd => ?_⟩
    by_cases hb : d < big
    · exact h3 d ⟨hb, hd⟩
    omega
  rename_i h
  refine ⟨Nat.le_refl _, fun h => absurd h zT13, fun d hd => ?_⟩
  by_cases hb : d < big
  · exact absurd ⟨d, hb, hd⟩ h
  omega
theorem Lst.eq (h : Lst Init Edge n L) : L = dstL Init Edge n := by
  obtain ⟨hs, hm⟩ := h
  refine List.ext_getElem? fun q => ?_
  by_cases hq : q < n
  · obtain ⟨v, e1⟩ : ∃ v, L[q]? = some v := ⟨_, List.getElem?_eq_getElem (by rw [hs.len]; exact hq)⟩
    obtain ⟨d1, d2, d3⟩ := dst_spec (Init := Init) (Edge := Edge) q
    have h1 := hs.le q _ e1
    have : v = dst Init Edge q := by
      by_cases hb : v < big
      · have h2 := d3 _ (hs.path q _ e1 hb)
        have h3 := hm q _ _ e1 (d2 zT13)
        omega
      by_cases hb2 : dst Init Edge q < big
      · have h3 := hm q _ _ e1 (d2 hb2)
        omega
      omega
    rw [e1, this]
    simp [dstL, List.getElem?_range hq]
  rw [List.getElem?_eq_none (by rw [hs.len]; omega), List.getElem?_eq_none (by simp [dstL]; omega)]
/-- Nothing gets cheaper along an edge: all costs are least. -/
theorem Lst.of_closed (hs : Snd Init Edge n L) (hin : ∀ q p w, Edge q p w → q < n) (hc : ∀ (q p w x y : Nat), Edge q p w → L[q]? = some x → x < big → L[p]? = some y → y ≤ x + w) : Lst Init Edge n L := by
  refine ⟨hs, fun q x d hx hp => ?_⟩
  induction hp generalizing x with
  | init q d h => exact hs.init q x d hx h
  | step q p d w h e ih =>
    have hq := hin q p w e
    have hl : q < L.length := by rw [hs.len]; exact hq
    have e1 : L[q]? = some L[q] := List.getElem?_eq_getElem hl
    have h1 := ih L[q] e1
    by_cases hb : L[q] < big
    · have := hc q p w _ _ e e1 hb hx
      omega
    have := hs.le p x hx
    omega
/-- A cost gets less along an edge. -/
theorem Snd.set (hs : Snd Init Edge n L) {q p w x : Nat} (e : Edge q p w) (hx : L[q]? = some x) (hb : x < big) (hlt : ∀ y : Nat, L[p]? = some y → x + w < y) : Snd Init Edge n (L.set p (x + w)) := by
  have hpth : Pth Init Edge p (x + w) := .step q p x w (hs.path q x hx hb) e
  refine ⟨by simpa using hs.len, fun r y hy => ?_, fun r y hy hb' => ?_, fun r y d hy hi => ?_⟩
  all_goals
    rw [List.getElem?_set] at hy
    split at hy
    · rename_i er
      subst er
      split at hy
      · rename_i hpl
        simp only [Option.some.injEq] at hy
        subst hy
        have h0 := hlt L[p] (List.getElem?_eq_getElem hpl)
        have h1 := hs.le p _ (List.getElem?_eq_getElem hpl)
        first
          | omega
          | exact hpth
          | (have h2 := hs.init p _ d (List.getElem?_eq_getElem hpl) hi; omega)
      cases hy
    first
      | exact hs.le r y hy
      | exact hs.path r y hy hb'
      | exact hs.init r y d hy hi
/-- A cost that cannot get less any more. -/
def Stl (Init : Nat → Nat → Prop) (Edge : Nat → Nat → Nat → Prop) (L : List Nat) (p : Nat) : Prop := ∀ (x d : Nat), L[p]? = some x → Pth Init Edge p d → x ≤ d
open Classical in
noncomputable def stlN (Init : Nat → Nat → Prop) (Edge : Nat → Nat → Nat → Prop) (L : List Nat) (n : Nat) : Nat := ((List.range n).filter fun p => decide (Stl Init Edge L p)).length
/-- In rounds: k states are settled, and so it goes on; D tells which edges this round has seen (L0: the costs at its beginning). -/
structure Rd (Init : Nat → Nat → Prop) (Edge : Nat → Nat → Nat → Prop) (n k : Nat) (L0 : List Nat) (D : Nat → Nat → Nat → Prop) (L : List Nat) : Prop where
  snd : Snd Init Edge n L
  snd0 : Snd Init Edge n L0
  low : ∀ (q x x0 : Nat), L[q]? = some x → L0[q]? = some x0 → x ≤ x0
  cnt : k ≤ stlN Init Edge L0 n ∨ Lst Init Edge n L0
  seen : ∀ (q p w x y : Nat), D q p w → Edge q p w → L0[q]? = some x → L[p]? = some y → y ≤ x + w
theorem Rd.skip {k : Nat} {L0 : List Nat} {D D' : Nat → Nat → Nat → Prop} (h : Rd Init Edge n k L0 D L) (hd : ∀ (q p w x y : Nat), D' q p w → D q p w ∨ (Edge q p w → L0[q]? = some x → L[p]? = some y → y ≤ x + w)) : Rd Init Edge n k L0 D' L :=
  ⟨h.snd, h.snd0, h.low, h.cnt, fun q p w x y h1 h2 h3 h4 => by
    rcases hd q p w x y h1 with h5 | h5
    · exact h.seen q p w x y h5 h2 h3 h4
    exact h5 h2 h3 h4⟩
theorem Rd.set {k q0 p0 w0 x0 : Nat} {L0 : List Nat} {D D' : Nat → Nat → Nat → Prop} (h : Rd Init Edge n k L0 D L) (e : Edge q0 p0 w0) (hx : L[q0]? = some x0) (hb : x0 < big) (hlt : ∀ y : Nat, L[p0]? = some y → x0 + w0 < y) (hp0 : p0 < n)
    (hd : ∀ q p w, D' q p w → D q p w ∨ (q = q0 ∧ p = p0 ∧ w = w0)) : Rd Init Edge n k L0 D' (L.set p0 (x0 + w0)) := by
  have hlow : ∀ (q x x1 : Nat), (L.set p0 (x0 + w0))[q]? = some x → L[q]? = some x1 → x ≤ x1 := by
    intro q x x1 h1 h2
    rw [List.getElem?_set] at h1
    split at h1
    · rename_i eq
      subst eq
      split at h1
      · simp only [Option.some.injEq] at h1
        have := hlt x1 h2
        omega
      cases h1
    rw [h1] at h2; simp at h2; omega
  have hget : ∀ q, q < n → ∃ x, L[q]? = some x := fun q hq => ⟨L[q]'(by rw [h.snd.len]; exact hq), List.getElem?_eq_getElem _⟩
  have hlt' : ∀ (q x : Nat), (L.set p0 (x0 + w0))[q]? = some x → q < n := fun q x hq => by have := (List.getElem?_eq_some_iff.1 hq).1; rw [List.length_set, h.snd.len] at this; exact this
  refine ⟨h.snd.set e hx hb hlt, h.snd0, fun q x x1 h1 h2 => ?_, h.cnt, fun q p w x y h1 h2 h3 h4 => ?_⟩
  · obtain ⟨z, hz⟩ := hget q (hlt' q x h1)
    have a1 := hlow q x z h1 hz
    have a2 := h.low q z x1 hz h2
    omega
  obtain ⟨z, hz⟩ := hget p (hlt' p y h4)
  have a1 := hlow p y z h4 hz
  rcases hd q p w h1 with h5 | ⟨rfl, rfl, rfl⟩
  · have := h.seen q p w x z h5 h2 h3 hz
    omega
  have a2 := h.low q x0 x hx h3
  rw [List.getElem?_set_self (by rw [h.snd.len]; exact hp0)] at h4
  simp only [Option.some.injEq] at h4
  omega
open Classical in
theorem Rd.all {k : Nat} (hs : Snd Init Edge n L) (hc : k ≤ stlN Init Edge L n ∨ Lst Init Edge n L) (hk : n ≤ k) : L = dstL Init Edge n := by
  rcases hc with hc | hc
  · refine Lst.eq ⟨hs, fun q x d hx hp => ?_⟩
    have hq : q < n := by have := (List.getElem?_eq_some_iff.1 hx).1; rw [hs.len] at this; exact this
    have hfull : ∀ p ∈ List.range n, decide (Stl Init Edge L p) = true := by
      have h1 : ((List.range n).filter fun p => decide (Stl Init Edge L p)).length = (List.range n).length := by
        have := List.length_filter_le (fun p => decide (Stl Init Edge L p)) (List.range n)
        unfold stlN at hc
        simp only [List.length_range] at this ⊢
        omega
      exact List.length_filter_eq_length_iff.1 h1
    have := hfull q (List.mem_range.2 hq)
    exact (of_decide_eq_true this) x d hx hp
  exact hc.eq
/-- By a queue: T is what waits. -/
structure Que (Init : Nat → Nat → Prop) (Edge : Nat → Nat → Nat → Prop) (n : Nat) (X : Nat → Prop) (L : List Nat) (T : List Nat) : Prop where
  snd : Snd Init Edge n L
  fin : ∀ q ∈ T, ∃ x : Nat, L[q]? = some x ∧ x < big
  nodup : T.Nodup
  edge : ∀ (q p w x y : Nat), q ∉ T → ¬ X q → Edge q p w → L[q]? = some x → x < big → L[p]? = some y → y ≤ x + w
theorem Que.done {T : List Nat} (h : Que Init Edge n (fun _ => False) L T) (hT : T = []) (hin : ∀ q p w, Edge q p w → q < n) : L = dstL Init Edge n :=
  (Lst.of_closed h.snd hin fun q p w x y e hx hb hy => h.edge q p w x y (by simp [hT]) zT14 e hx hb hy).eq
theorem Que.take {T : List Nat} {q : Nat} (h : Que Init Edge n (fun _ => False) L (q :: T)) : q ∉ T ∧ Que Init Edge n (fun x => x = q) L T := by
  have hn := List.nodup_cons.1 h.nodup
  exact ⟨hn.1, h.snd, fun x hx => h.fin x (by simp [hx]), hn.2, fun x p w a b h1 h2 h3 h4 h5 h6 => h.edge x p w a b (by simp [h1]; exact h2) zT14 h3 h4 h5 h6⟩
/-- A cost gets less; its state waits from now on (T': T, with it). -/
theorem Que.less {T T' : List Nat} {q p w x : Nat} (h : Que Init Edge n (fun z => z = q) L T) (e : Edge q p w) (hx : L[q]? = some x) (hb : x < big) (hp : p < n) (hlt : ∀ y : Nat, L[p]? = some y → x + w < y) (hT : T' = if p ∈ T then T else T ++ [p]) : Que Init Edge n (fun z => z = q) (L.set p (x + w)) T' := by
  have hpl : p < L.length := by rw [h.snd.len]; exact hp
  have hpT : p ∈ T' := by rw [hT]; split <;> simp_all
  have hsub : ∀ r, r ∉ T' → r ∉ T ∧ r ≠ p := by
    intro r hr
    refine ⟨fun hm => hr ?_, fun e' => hr (e' ▸ hpT)⟩
    rw [hT]; split <;> simp [hm]
  have hb2 : x + w < big := by
    have h1 := hlt L[p] (List.getElem?_eq_getElem hpl)
    have h2 := h.snd.le p _ (List.getElem?_eq_getElem hpl)
    omega
  refine ⟨h.snd.set e hx hb hlt, fun r hr => ?_, ?_, fun r s v a b h1 h2 h3 h4 h5 h6 => ?_⟩
  · by_cases er : r = p
    · subst er
      exact ⟨x + w, by rw [List.getElem?_set_self hpl], hb2⟩
    have hrT : r ∈ T := by
      rw [hT] at hr
      split at hr
      · exact hr
      rcases List.mem_append.1 hr with hr | hr
      · exact hr
      exact absurd (by simpa using hr) er
    obtain ⟨y, h1, h2⟩ := h.fin r hrT
    exact ⟨y, by rw [List.getElem?_set_ne (Ne.symm er)]; exact h1, h2⟩
  · rw [hT]
    split
    · exact h.nodup
    rename_i hn
    rw [List.nodup_append]
    exact ⟨h.nodup, by simp, fun a ha b hb => by simp at hb; subst hb; rintro rfl; exact hn ha⟩
  obtain ⟨h7, h8⟩ := hsub r h1
  rw [List.getElem?_set_ne (Ne.symm h8)] at h4
  by_cases es : s = p
  · subst es
    rw [List.getElem?_set_self hpl] at h6
    simp only [Option.some.injEq] at h6
    have h9 := hlt L[s] (List.getElem?_eq_getElem hpl)
    have h10 := h.edge r s v a _ h7 h2 h3 h4 h5 (List.getElem?_eq_getElem hpl)
    omega
  rw [List.getElem?_set_ne (Ne.symm es)] at h6
  exact h.edge r s v a b h7 h2 h3 h4 h5 h6
end
theorem nodup_len : ∀ {n : Nat} {l : List Nat}, l.Nodup → (∀ x ∈ l, x < n) → l.length ≤ n
  | 0, l, _, h => by
    cases l with
    | nil => simp
    | cons x l => exact absurd (h x zT14) zT13
  | n + 1, l, hd, h => by
    have h1 := nodup_len (n := n) (l := l.filter (fun x => x != n)) (hd.filter _) (fun x hx => by
      simp only [List.mem_filter, bne_iff_ne, ne_eq] at hx
      have := h x hx.1
      omega)
    have h2 : ∀ (l : List Nat), l.Nodup → l.length ≤ (l.filter (fun x => x != n)).length + 1 := by
      intro l
      induction l with
      | nil => simp
      | cons y l ih =>
        intro hd
        have hd' := List.nodup_cons.1 hd
        by_cases e : y = n
        · subst e
          have : l.filter (fun x => x != y) = l := List.filter_eq_self.2 fun x hx => by
            simp only [bne_iff_ne, ne_eq]; rintro rfl; exact hd'.1 hx
          simp [List.filter_cons, this]
        have := ih hd'.2
        simp [List.filter_cons, e]
        omega
    have := h2 l hd
    omega
/-- Costs of state q, once the arcs of a state that costs c have been looked at. -/
def bhA (i o : Int) (c q : Nat) (v : Nat) (l : List Ar) : Nat := l.foldl (fun v a => if a.i = i ∧ a.o = o ∧ a.t = (q : Int) ∧ c + a.w.toNat < v then c + a.w.toNat else v) v
theorem bhA_snoc {i o : Int} {c q v k : Nat} {l : List Ar} {a : Ar} (h : l[k]? = some a) : bhA i o c q v (l.take (k + 1)) = if a.i = i ∧ a.o = o ∧ a.t = (q : Int) ∧ c + a.w.toNat < bhA i o c q v (l.take k) then c + a.w.toNat else bhA i o c q v (l.take k) := by
  unfold bhA
  rw [take_snoc h, List.foldl_append]
  rfl
/-- Costs of state q behind the first k states of a set. -/
def bhS (sts : List St) (d : List Nat) (i o : Int) (q : Nat) : Nat → Nat
  | 0 => big
  | k + 1 => if d.getD k big = big then bhS sts d i o q k else bhA i o (d.getD k big) q (bhS sts d i o q k) (stA sts k)
def bhD (sts : List St) (d : List Nat) (i o : Int) : List Nat := bl (fun q => bhS sts d i o q d.length) d.length
theorem bhA_le (i o : Int) (c q v : Nat) : ∀ l : List Ar, bhA i o c q v l ≤ v
  | [] => Nat.le_refl _
  | a :: l => by
    unfold bhA
    rw [List.foldl_cons]
    have := bhA_le i o c q (if a.i = i ∧ a.o = o ∧ a.t = (q : Int) ∧ c + a.w.toNat < v then c + a.w.toNat else v) l
    unfold bhA at this
    refine Nat.le_trans this ?_
    split <;> omega
theorem bhS_le (sts : List St) (d : List Nat) (i o : Int) (q : Nat) : ∀ k, bhS sts d i o q k ≤ big
  | 0 => Nat.le_refl _
  | k + 1 => by
    rw [bhS]
    split
    · exact bhS_le sts d i o q k
    exact Nat.le_trans (bhA_le _ _ _ _ _ _) (bhS_le sts d i o q k)
/-- The costs in the midst of a state's arcs. -/
def bhM (sts : List St) (d : List Nat) (i o : Int) (c k j : Nat) (l : List Ar) : List Nat := bl (fun q => bhA i o c q (bhS sts d i o q k) (l.take j)) d.length
theorem bhM_skip {sts : List St} {d : List Nat} {i o : Int} {c k j : Nat} {l : List Ar} {a : Ar} (h : l[j]? = some a) (hn : ∀ q, q < d.length → ¬ (a.i = i ∧ a.o = o ∧ a.t = (q : Int) ∧ c + a.w.toNat < bhA i o c q (bhS sts d i o q k) (l.take j))) : bhM sts d i o c k (j + 1) l = bhM sts d i o c k j l :=
  bl_congr fun q hq => by rw [bhA_snoc h, if_neg (hn q hq)]
theorem bhM_put {sts : List St} {d : List Nat} {i o : Int} {c k j p : Nat} {l : List Ar} {a : Ar} (h : l[j]? = some a) (hp : p < d.length) (hi : a.i = i) (ho : a.o = o) (ht : a.t = (p : Int)) (hw : c + a.w.toNat < bhA i o c p (bhS sts d i o p k) (l.take j)) : (bhM sts d i o c k j l).set p (c + a.w.toNat) = bhM sts d i o c k (j + 1) l := by
  refine bl_set hp ?_ fun q _ hne => ?_
  · rw [bhA_snoc h, if_pos ⟨hi, ho, ht, hw⟩]
  rw [bhA_snoc h, if_neg]
  rintro ⟨_, _, h2, _⟩
  omega
def bhR (sts : List St) (d : List Nat) (i o : Int) (k : Nat) : List Nat := bl (fun q => bhS sts d i o q k) d.length
theorem bhR_none {sts : List St} {d : List Nat} {i o : Int} {k : Nat} (h : d[k]? = some big) : bhR sts d i o (k + 1) = bhR sts d i o k := bl_congr fun q _ => by rw [bhS, List.getD_eq_getElem?_getD, h, Option.getD_some, if_pos rfl]
theorem bhM_zero (sts : List St) (d : List Nat) (i o : Int) (c k : Nat) (l : List Ar) : bhM sts d i o c k 0 l = bhR sts d i o k := rfl
theorem bhM_end {sts : List St} {d : List Nat} {i o : Int} {c k j : Nat} {x : St} (hx : sts[k]? = some x) (hc : d[k]? = some c) (hb : c ≠ big) (hj : x.arcs.length ≤ j) : bhM sts d i o c k j x.arcs = bhR sts d i o (k + 1) := bl_congr fun q _ => by
  rw [bhS, List.getD_eq_getElem?_getD, hc, Option.getD_some, if_neg hb, stA_of hx, List.take_of_length_le hj]
/-- The least of a list; big of an empty one. -/
def mnL (l : List Nat) : Nat := l.foldl (fun n x => if x < n then x else n) big
theorem mnL_snoc {l : List Nat} {k x : Nat} (h : l[k]? = some x) : mnL (l.take (k + 1)) = if x < mnL (l.take k) then x else mnL (l.take k) := by
  unfold mnL
  rw [take_snoc h, List.foldl_append]
  rfl
/-- The least of each pair of labels: sorted arcs, one for each. -/
def prL (l : List Ar) : Nat → List Ar
  | 0 => []
  | k + 1 => match l[k]? with
    | none => prL l k
    | some a => if k = 0 ∨ (∃ b, l[k - 1]? = some b ∧ (a.i ≠ b.i ∨ a.o ≠ b.o)) then prL l k ++ [a] else prL l k
end Go.Proofs.YthiknkcigcglkaaDoor
