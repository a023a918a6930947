/- Part 4 of what the law ScriptReads rests on. -/
import Derived.RangeFuncLeaves
import Derived.RangeFuncRecord
import Derived.TacticsIn
import Derived.Shelf.Small.Strs
import Derived.Shelf.Strings.Cut
import Derived.Shelf.Strings.Prefix
import Derived.Shelf.Strconv.ErrVarAll
import Derived.Test.YtlgnjehfojogmaaDoorProg
import Derived.Lib.IndexBytes
import Derived.Test.YtlgnjehfojogmaaDoorPkSc1
import Derived.Test.YtlgnjehfojogmaaDoorPkSc2
import Derived.Test.YtlgnjehfojogmaaDoorPkSc3
namespace Go.Proofs.YtlgnjehfojogmaaDoor
open Go.RowKit
set_option linter.unusedSimpArgs false
set_option linter.unusedVariables false
set_option maxRecDepth 100000

/-- What the package's table of forms holds. -/
def fmRow (k : Nat) : List Value := [.int .i64 (k : Int), .string (wdK k), .string (arK (ptK k))]
def preF (w : World) : Prop := ∀ k, 1 ≤ k → k ≤ 15 → ∀ j v, (fmRow k)[j]? = some v → w.cell? ⟨0, (k - 1) * 3 + j, none⟩ = some v
theorem preF_kept : Kept preF := fun w w' hb h k h1 h2 j v hj => (hb.cell (p := ⟨0, (k - 1) * 3 + j, none⟩) (by
 have := h k h1 h2 j v hj
 unfold World.cell? at this
 rcases Nat.lt_or_ge 0 w.heap.size with h' | h'
 ·exact h'
 ·rw [Array.getElem?_eq_none h'] at this
  cases this)).trans (h k h1 h2 j v hj)
theorem cmp_neq_60F {c : Cx} {s : S} {o : Oper} {t' : TypeId} {x y : Operand} {k1 t1 a1 b1 k2 t2 a2 b2 : Int} {n1 n2 : ByteArray} (hP : c.P = Tryd.prog) (ho : o.op = .binOp .neq 60 x y t') (hx : s.ev x = some (.agg [.i k1, .i t1, .i a1, .i b1, .s n1])) (hy : s.ev y = some (.agg [.i k2, .i t2, .i a2, .i b2, .s n2])) (h : (⟨k1, t1, a1, b1, n1⟩ : Stp) = ⟨k2, t2, a2, b2, n2⟩) : RP c o s (.b false) := by
 cases h
 refine rp_bin_agg [.int .i64 k1, .int .i64 t1, .int .i64 a1, .int .i64 b1, .string n1] [.int .i64 k1, .int .i64 t1, .int .i64 a1, .int .i64 b1, .string n1] ho hx hy (fun w => ?_) (fun w => ?_)
 ·rw [hP]; simp [go_sem]
 ·rw [hP]; simp [go_sem]
theorem cmp_neq_60T {c : Cx} {s : S} {o : Oper} {t' : TypeId} {x y : Operand} {k1 t1 a1 b1 k2 t2 a2 b2 : Int} {n1 n2 : ByteArray} (hP : c.P = Tryd.prog) (ho : o.op = .binOp .neq 60 x y t') (hx : s.ev x = some (.agg [.i k1, .i t1, .i a1, .i b1, .s n1])) (hy : s.ev y = some (.agg [.i k2, .i t2, .i a2, .i b2, .s n2])) (h : (⟨k1, t1, a1, b1, n1⟩ : Stp) ≠ ⟨k2, t2, a2, b2, n2⟩) : RP c o s (.b true) := by
 refine rp_bin_agg [.int .i64 k1, .int .i64 t1, .int .i64 a1, .int .i64 b1, .string n1] [.int .i64 k2, .int .i64 t2, .int .i64 a2, .int .i64 b2, .string n2] ho hx hy (fun w => ?_) (fun w => ?_)
 ·rw [hP]; simp [go_sem]
 ·rw [hP]
  simp [go_sem]
  intro e1 e2 e3 e4 e5
  refine h ?_
  rw [ba_toList, ba_toList] at e5
  rw [e1, e2, e3, e4, show n1 = n2 from ByteArray.ext (Array.toList_inj.1 e5)]
theorem drop_get {l : List UInt8} {j : Nat} {b : UInt8} (h : l[j]? = some b) : l.drop j = b :: l.drop (j + 1) := by
 obtain ⟨h1, h2⟩ := List.getElem?_eq_some_iff.1 h
 rw [List.drop_eq_getElem_cons h1, h2]
theorem nmB_size {n : ByteArray} (h : nmB n.data.toList = true) : n.size ≤ 12 := by
 have hl : n.data.toList.length = n.size := Array.length_toList
 refine Classical.byContradiction fun hn => ?_
 rw [nmB_false fun ⟨_, h2, _⟩ => by omega] at h
 cases h
set_option maxHeartbeats 4000000 in
theorem am_shown (x : Stp) : FnP preF Tryd.prog 26 [.agg ((stpD x).map V.d)] (fun v => v = .tup [.s (stS x), .i (stE x)]) := by
 by_cases hk : 1 ≤ x.k ∧ x.k ≤ 15
 ·obtain ⟨k, hkk⟩ : ∃ k : Nat, x.k = k := ⟨x.k.toNat, by omega⟩
  obtain ⟨p, hp⟩ : ∃ p, ptK k = p := ⟨_, rfl⟩
  have hp4 : p < 4 := hp ▸ ptK_lt k (by omega)
  have hspec := prR_spec x k p hkk (by omega) (by omega) hp
  obtain ⟨S1, hS1⟩ : ∃ S1, stS x = S1 := ⟨_, rfl⟩
  obtain ⟨E1, hE1⟩ : ∃ E1, stE x = E1 := ⟨_, rfl⟩
  rw [hS1, hE1] at hspec ⊢
  clear hS1 hE1
  obtain ⟨xk, xt, xa, xb, xn⟩ := x
  simp only at hk hkk
  subst hkk
  dsimp only at hspec
  have hlet := arK_let p hp4
  have hlen := arK_len p hp4
  have hws := wdK_size k (by omega)
  obtain ⟨ls, hls⟩ : ∃ ls, (arK p).data.toList = ls := ⟨_, rfl⟩
  obtain ⟨len, hln⟩ : ∃ n, ls.length = n := ⟨_, rfl⟩
  have hsz : (arK p).size = len := by rw [← hln, ← hls]; exact Array.length_toList.symm
  rw [hls] at hspec hlet hlen
  rw [hln] at hlen
  have hs32 : (⟨#[32]⟩ : ByteArray).size = 1 := rfl
  have hs10 : (⟨#[10]⟩ : ByteArray).size = 1 := rfl
  simp only [stpD, List.map_cons, List.map_nil]
  refine FnP.intro (n := 70) ⟨Tryd.func26, rfl, rfl, rfl, rfl⟩ (by simp [V.pure, V.has, V.hasL]) (by simp) fun w0 out hpre => ?_
  have hfm := hpre k (by omega) (by omega)
  rw [fmRow, hp] at hfm
  refine AW.seq ?_
  refine AW.region ?_
  refine AL.sm rfl (sm_box 1 rfl rfl rfl (by first | rfl | simp [S.clean, S.put, S.newObj, S.forget, V.has, V.hasL, junkIf, setL, V.cs, hasL_i, hasL_d, hasL_b, hasL_s, hasL_n, hasL_rep, hasL_flat, hasL_append, -List.map_set]) rfl) ?_
  refine AL.rp rfl rfl (rp_assign rfl rfl) ?_
  refine AL.rp rfl rfl (rp_assign rfl rfl) ?_
  refine AL.nil ?_
  try simp only [thenS, S.put, S.newObj, setL, V.cs, List.length_cons, List.length_nil, List.take_succ_cons, List.take_zero, List.drop_succ_cons, List.drop_zero, List.drop_nil, List.nil_append, List.cons_append, List.append_nil, Nat.zero_add, Nat.reduceAdd, List.map_cons, List.map_nil, List.set_cons_zero, List.set_cons_succ, enum]
  refine AW.seq ?_
  refine AW.seq ?_
  refine AW.region ?_
  (first | (refine AL.rp rfl rfl (rp_field_ref Tryd.underlying60 rfl rfl rfl inf3 (by decide) rfl) ?_) | (refine AL.rp rfl rfl (rp_field_ad Tryd.underlying60 rfl rfl rfl inf3 (by decide) rfl) ?_))
  (first | (refine AL.rd rfl rfl (rd_load_ref Tryd.underlying3 rfl rfl rfl rfl rfl rfl) ?_) | (refine AL.rd rfl rfl (rd_load_ad Tryd.underlying3 rfl rfl rfl rfl) ?_) | (refine AL.rd rfl rfl (rd_load_map Tryd.underlying3 rfl rfl rfl rfl rfl rfl (by assumption)) ?_) | (refine AL.rd rfl rfl (rd_load_flat Tryd.underlying3 rfl rfl rfl rfl rfl rfl (fun _ => rfl) (by assumption) rfl) ?_))
  (first | (refine AL.rp rfl rfl (rp_lssT rfl rfl rfl (by first | assumption | omega | (dsimp only; omega))) ?_) | (refine AL.rp rfl rfl (rp_lssF rfl rfl rfl (by first | assumption | omega | (dsimp only; omega))) ?_) | (refine AL.rp rfl rfl (rp_lss rfl rfl rfl) ?_))
  refine AL.rp rfl rfl (rp_move rfl rfl) ?_
  (first | (refine AL.noV rfl rfl rfl rfl ?_) | (refine AL.noU rfl ⟨_, rfl, rfl⟩ rfl ?_) | (refine AL.rpy rfl rfl rfl (rp_field_ref Tryd.underlying60 rfl rfl rfl inf3 (by decide) rfl) ?_) | (refine AL.rpy rfl rfl rfl (rp_field_ad Tryd.underlying60 rfl rfl rfl inf3 (by decide) rfl) ?_))
  (first | (refine AL.noV rfl rfl rfl rfl ?_) | (refine AL.noU rfl ⟨_, rfl, rfl⟩ rfl ?_) | (refine AL.rdy rfl rfl rfl (rd_load_ref Tryd.underlying3 rfl rfl rfl rfl rfl rfl) ?_) | (refine AL.rdy rfl rfl rfl (rd_load_ad Tryd.underlying3 rfl rfl rfl rfl) ?_) | (refine AL.rdy rfl rfl rfl (rd_load_map Tryd.underlying3 rfl rfl rfl rfl rfl rfl (by assumption)) ?_) | (refine AL.rdy rfl rfl rfl (rd_load_flat Tryd.underlying3 rfl rfl rfl rfl rfl rfl (fun _ => rfl) (by assumption) rfl) ?_))
  (first | (refine AL.noV rfl rfl rfl rfl ?_) | (refine AL.noU rfl ⟨_, rfl, rfl⟩ rfl ?_) | (refine AL.rpy rfl rfl rfl (rp_gtrT rfl rfl rfl (by first | assumption | omega | (dsimp only; omega))) ?_) | (refine AL.rpy rfl rfl rfl (rp_gtrF rfl rfl rfl (by first | assumption | omega | (dsimp only; omega))) ?_) | (refine AL.rpy rfl rfl rfl (rp_gtr rfl rfl rfl) ?_))
  refine AL.rp rfl rfl (rp_pick rfl rfl rfl) ?_
  refine AL.nil ?_
  try simp only [thenS, S.put]
  refine AW.condF rfl ?_
  refine AW.skip ?_
  try simp only [thenS]
  refine AW.seq ?_
  refine AW.region ?_
  (first | (refine AL.rp rfl rfl (rp_field_ref Tryd.underlying60 rfl rfl rfl inf3 (by decide) rfl) ?_) | (refine AL.rp rfl rfl (rp_field_ad Tryd.underlying60 rfl rfl rfl inf3 (by decide) rfl) ?_))
  (first | (refine AL.rd rfl rfl (rd_load_ref Tryd.underlying3 rfl rfl rfl rfl rfl rfl) ?_) | (refine AL.rd rfl rfl (rd_load_ad Tryd.underlying3 rfl rfl rfl rfl) ?_) | (refine AL.rd rfl rfl (rd_load_map Tryd.underlying3 rfl rfl rfl rfl rfl rfl (by assumption)) ?_) | (refine AL.rd rfl rfl (rd_load_flat Tryd.underlying3 rfl rfl rfl rfl rfl rfl (fun _ => rfl) (by assumption) rfl) ?_))
  refine AL.rp rfl rfl (rp_sub rfl rfl rfl (by first | omega | (dsimp only; omega))) ?_
  refine AL.rp rfl rfl (rp_indexG (k := k - 1) Tryd.underlying86 inf85 rfl rfl rfl (by omega) (by omega) (by decide)) ?_
  refine AL.rd rfl rfl (rd_loadsG ([.int .i64 (k : Int), .string (wdK k), .string (arK p)]) Tryd.underlying85 rfl inf85 rfl rfl rfl (by assumption)) ?_
  refine AL.sm rfl (sm_alloc (l := [.d (.p (.int .i64 0)), .d (.p (.string ⟨#[]⟩)), .d (.p (.string ⟨#[]⟩))]) 4 inf85 rfl (by first | rfl | simp [S.clean, S.put, S.newObj, S.forget, V.has, V.hasL, junkIf, setL, V.cs, hasL_i, hasL_d, hasL_b, hasL_s, hasL_n, hasL_rep, hasL_flat, hasL_append, -List.map_set]) rfl rfl) ?_
  refine AL.st rfl (st_store_any inf85 rfl rfl rfl rfl rfl rfl rfl rfl (by first | decide | (simp; done) | (simp; omega)) rfl) ?_
  refine AL.nil ?_
  try simp only [thenS, S.put, S.newObj, setL, V.cs, List.length_cons, List.length_nil, List.take_succ_cons, List.take_zero, List.drop_succ_cons, List.drop_zero, List.drop_nil, List.nil_append, List.cons_append, List.append_nil, Nat.zero_add, Nat.reduceAdd, List.map_cons, List.map_nil, List.set_cons_zero, List.set_cons_succ]
  refine AW.seq ?_
  refine AW.region ?_
  (first | (refine AL.rp rfl rfl (rp_field_ref Tryd.underlying85 rfl rfl rfl inf9 (by decide) rfl) ?_) | (refine AL.rp rfl rfl (rp_field_ad Tryd.underlying85 rfl rfl rfl inf9 (by decide) rfl) ?_))
  (first | (refine AL.rd rfl rfl (rd_load_ref Tryd.underlying9 rfl rfl rfl rfl rfl rfl) ?_) | (refine AL.rd rfl rfl (rd_load_ad Tryd.underlying9 rfl rfl rfl rfl) ?_) | (refine AL.rd rfl rfl (rd_load_map Tryd.underlying9 rfl rfl rfl rfl rfl rfl (by assumption)) ?_) | (refine AL.rd rfl rfl (rd_load_flat Tryd.underlying9 rfl rfl rfl rfl rfl rfl (fun _ => rfl) (by assumption) rfl) ?_))
  refine AL.rp rfl rfl (rp_assign rfl rfl) ?_
  refine AL.nil ?_
  try simp only [thenS, S.put]
  refine AW.seq ?_
  refine AW.region ?_
  (first | (refine AL.rd rfl rfl (rd_loads_ref Tryd.underlying60 rfl inf60 rfl rfl rfl rfl rfl rfl) ?_) | (refine AL.rd rfl rfl (rd_loads_ad Tryd.underlying60 rfl inf60 rfl rfl rfl rfl) ?_))
  refine AL.sm rfl (sm_alloc (l := [.d (.p (.int .i64 0)), .d (.p (.int .i64 0)), .d (.p (.int .i64 0)), .d (.p (.int .i64 0)), .d (.p (.string ⟨#[]⟩))]) 6 inf60 rfl (by first | rfl | simp [S.clean, S.put, S.newObj, S.forget, V.has, V.hasL, junkIf, setL, V.cs, hasL_i, hasL_d, hasL_b, hasL_s, hasL_n, hasL_rep, hasL_flat, hasL_append, -List.map_set]) rfl rfl) ?_
  refine AL.st rfl (st_store_any inf60 rfl rfl rfl rfl rfl rfl rfl rfl (by first | decide | (simp; done) | (simp; omega)) rfl) ?_
  refine AL.nil ?_
  try simp only [thenS, S.put, S.newObj, setL, V.cs, List.length_cons, List.length_nil, List.take_succ_cons, List.take_zero, List.drop_succ_cons, List.drop_zero, List.drop_nil, List.nil_append, List.cons_append, List.append_nil, Nat.zero_add, Nat.reduceAdd, List.map_cons, List.map_nil, List.set_cons_zero, List.set_cons_succ]
  refine AW.seq ?_
  refine AW.region ?_
  (first | (refine AL.rp rfl rfl (rp_field_ref Tryd.underlying60 rfl rfl rfl inf3 (by decide) rfl) ?_) | (refine AL.rp rfl rfl (rp_field_ad Tryd.underlying60 rfl rfl rfl inf3 (by decide) rfl) ?_))
  (first | (refine AL.st rfl (st_store_map2 inf3 rfl rfl rfl rfl rfl rfl rfl rfl (by first | assumption | omega)) ?_) | (refine AL.st rfl (st_store inf3 rfl rfl rfl rfl rfl rfl rfl (by first | decide | (simp; done)) rfl) ?_))
  refine AL.nil ?_
  try simp only [thenS, S.put, S.newObj, setL, V.cs, List.length_cons, List.length_nil, List.take_succ_cons, List.take_zero, List.drop_succ_cons, List.drop_zero, List.drop_nil, List.nil_append, List.cons_append, List.append_nil, Nat.zero_add, Nat.reduceAdd, List.map_cons, List.map_nil, List.set_cons_zero, List.set_cons_succ]
  refine AW.seq ?_
  refine AW.seq ?_
  refine AW.region ?_
  (first | (refine AL.rp rfl rfl (rp_field_ref Tryd.underlying85 rfl rfl rfl inf9 (by decide) rfl) ?_) | (refine AL.rp rfl rfl (rp_field_ad Tryd.underlying85 rfl rfl rfl inf9 (by decide) rfl) ?_))
  (first | (refine AL.rd rfl rfl (rd_load_ref Tryd.underlying9 rfl rfl rfl rfl rfl rfl) ?_) | (refine AL.rd rfl rfl (rd_load_ad Tryd.underlying9 rfl rfl rfl rfl) ?_) | (refine AL.rd rfl rfl (rd_load_map Tryd.underlying9 rfl rfl rfl rfl rfl rfl (by assumption)) ?_) | (refine AL.rd rfl rfl (rd_load_flat Tryd.underlying9 rfl rfl rfl rfl rfl rfl (fun _ => rfl) (by assumption) rfl) ?_))
  refine AL.sm rfl (sm_range 700 Tryd.underlying9 rfl rfl (by first | rfl | simp [S.clean, S.put, S.newObj, S.forget, V.has, V.hasL, junkIf, setL, V.cs, hasL_i, hasL_d, hasL_b, hasL_s, hasL_n, hasL_rep, hasL_flat, hasL_append, -List.map_set]) rfl) ?_
  refine AL.nil ?_
  try simp only [thenS, S.put, S.newObj, setL, V.cs, List.length_cons, List.length_nil, List.take_succ_cons, List.take_zero, List.drop_succ_cons, List.drop_zero, List.drop_nil, List.nil_append, List.cons_append, List.append_nil, Nat.zero_add, Nat.reduceAdd, List.map_cons, List.map_nil, List.set_cons_zero, List.set_cons_succ]
  refine AW.block ?_
  refine AW.loopN (fun μ s' => ∃ (j : Nat) (L : ByteArray) (R : Stp), j + μ = len ∧ R.k = 0 ∧ L.size ≤ 7 + 14 * j ∧ proc ⟨k, xt, xa, xb, xn⟩ ls (wdK k) ⟨0, xt, xa, xb, xn⟩ = proc ⟨k, xt, xa, xb, xn⟩ (ls.drop j) L R ∧ s' = ⟨70, [(1, .ref 1 0), (5, .s L), (6, .ref 6 0), (29, .it 700 w0.heap.size (arK p) j)], [(1, ⟨60, [.i k, .i xt, .i xa, .i xb, .s xn], false, 0⟩), (6, ⟨60, [.i 0, .i R.t, .i R.a, .i R.b, .s R.n], false, 0⟩)], []⟩) ⟨len, _, ?_, 0, wdK k, ⟨0, xt, xa, xb, xn⟩, by omega, rfl, by omega, rfl, rfl⟩ ?_
  ·exact (Less.of rfl (by repeat (first | exact trivial | refine ⟨⟨_, rfl, Wk.refl _⟩, ?_⟩ | refine ⟨⟨_, rfl, Wk.nil _ _⟩, ?_⟩ | refine ⟨⟨_, rfl, Wk.junk _⟩, ?_⟩)) (by repeat (first | exact trivial | refine ⟨rfl, ?_⟩)) rfl)
  rintro μ s' ⟨j, L, ⟨Rk, Rt, Ra, Rb, Rn⟩, hj, hRk, hL, hI, rfl⟩
  simp only at hRk
  subst hRk
  dsimp only
  by_cases hlt : j < len
  ·obtain ⟨b, hb⟩ : ∃ b, ls[j]? = some b := ⟨_, List.getElem?_eq_getElem (by omega)⟩
   have hb' : (arK p).data.toList[j]? = some b := by rw [hls]; exact hb
   have hd := drop_get hb
   rw [hd] at hI
   have hb4 := hlet b (List.mem_of_getElem? hb)
   by_cases h110 : b.toNat = 110
   ·by_cases hnm : nmB xn.data.toList = true
    ·have hcn := am_scName xn
     rw [hnm] at hcn
     have hns := nmB_size hnm
     rw [proc_n h110 hnm] at hI
     dsimp only at hI
     refine AW.seq ?_
     refine AW.region ?_
     (first | (refine AL.st rfl (st_next rfl rfl (by assumption) (by omega) rfl (by first | rfl | (simp [S.put, S.newObj, setL, V.cs, V.mpsL, V.mps, D.mps, D.mpsL, D.mpsR]; done)) (by first | rfl | (simp [S.put, S.newObj, setL, V.cs, V.mpsL, V.mps, D.mps, D.mpsL, D.mpsR]; done)) (by first | rfl | (simp [S.put]; done)) rfl) ?_; simp only [S.put, List.map_cons, List.map_nil, upI_p, upI_ref, upI_junk, upI_it]) | (refine AL.rd rfl rfl (rd_nextEnd rfl rfl (by omega)) ?_))
     refine AL.rp rfl rfl (rp_extract rfl rfl rfl) ?_
     refine AL.nil ?_
     try simp only [thenS, S.put, S.newObj, setL, V.cs, List.length_cons, List.length_nil, List.take_succ_cons, List.take_zero, List.drop_succ_cons, List.drop_zero, List.drop_nil, List.nil_append, List.cons_append, List.append_nil, Nat.zero_add, Nat.reduceAdd, List.map_cons, List.map_nil, List.set_cons_zero, List.set_cons_succ]
     refine AW.seq ?_
     refine AW.condT rfl ?_
     refine AW.skip ?_
     try simp only [thenS]
     refine AW.block ?_
     refine AW.seq ?_
     refine AW.region ?_
     refine AL.rp rfl rfl (rp_extract rfl rfl rfl) ?_
     refine AL.rp rfl rfl (rp_assign rfl rfl) ?_
     refine AL.nil ?_
     try simp only [thenS, S.put]
     refine AW.seq ?_
     refine AW.seq ?_
     refine AW.region ?_
     refine AL.rp rfl rfl (rp_move rfl rfl) ?_
     (first | (refine AL.rp rfl rfl (rp_eqlT rfl rfl rfl (by first | assumption | omega | (dsimp only; omega))) ?_) | (refine AL.rp rfl rfl (rp_eqlF rfl rfl rfl (by first | assumption | omega | (dsimp only; omega))) ?_) | (refine AL.rp rfl rfl (rp_eql rfl rfl rfl) ?_))
     refine AL.nil ?_
     try simp only [thenS, S.put]
     refine AW.condT rfl ?_
     refine AW.seq ?_
     refine AW.seq ?_
     refine AW.region ?_
     (first | (refine AL.rp rfl rfl (rp_field_ref Tryd.underlying60 rfl rfl rfl inf9 (by decide) rfl) ?_) | (refine AL.rp rfl rfl (rp_field_ad Tryd.underlying60 rfl rfl rfl inf9 (by decide) rfl) ?_))
     (first | (refine AL.rd rfl rfl (rd_load_ref Tryd.underlying9 rfl rfl rfl rfl rfl rfl) ?_) | (refine AL.rd rfl rfl (rd_load_ad Tryd.underlying9 rfl rfl rfl rfl) ?_) | (refine AL.rd rfl rfl (rd_load_map Tryd.underlying9 rfl rfl rfl rfl rfl rfl (by assumption)) ?_) | (refine AL.rd rfl rfl (rd_load_flat Tryd.underlying9 rfl rfl rfl rfl rfl rfl (fun _ => rfl) (by assumption) rfl) ?_))
     refine AL.call (post := ?pc7) rfl (sm_call (args := [_]) ?hc7 ⟨Tryd.func51, rfl, rfl, rfl, rfl⟩ rfl rfl rfl rfl) ?_
     case hc7 => exact hcn
     rintro _ rfl -
     try dsimp only
     refine AL.rp rfl rfl (rp_not rfl rfl) ?_
     refine AL.nil ?_
     try simp only [thenS, S.put, S.newObj, setL, V.cs, List.length_cons, List.length_nil, List.take_succ_cons, List.take_zero, List.drop_succ_cons, List.drop_zero, List.drop_nil, List.nil_append, List.cons_append, List.append_nil, Nat.zero_add, Nat.reduceAdd, List.map_cons, List.map_nil, List.set_cons_zero, List.set_cons_succ]
     refine AW.condF rfl ?_
     refine AW.skip ?_
     try simp only [thenS]
     refine AW.seq ?_
     refine AW.region ?_
     refine AL.rp rfl rfl (rp_move rfl rfl) ?_
     (first | (refine AL.rp rfl rfl (rp_field_ref Tryd.underlying60 rfl rfl rfl inf9 (by decide) rfl) ?_) | (refine AL.rp rfl rfl (rp_field_ad Tryd.underlying60 rfl rfl rfl inf9 (by decide) rfl) ?_))
     (first | (refine AL.rd rfl rfl (rd_load_ref Tryd.underlying9 rfl rfl rfl rfl rfl rfl) ?_) | (refine AL.rd rfl rfl (rd_load_ad Tryd.underlying9 rfl rfl rfl rfl) ?_) | (refine AL.rd rfl rfl (rd_load_map Tryd.underlying9 rfl rfl rfl rfl rfl rfl (by assumption)) ?_) | (refine AL.rd rfl rfl (rd_load_flat Tryd.underlying9 rfl rfl rfl rfl rfl rfl (fun _ => rfl) (by assumption) rfl) ?_))
     refine AL.rp rfl rfl (rp_adds rfl rfl rfl (by first | assumption | omega | (simp only [ByteArray.size_append]; omega))) ?_
     refine AL.rp rfl rfl (rp_adds rfl rfl rfl (by first | assumption | omega | (simp only [ByteArray.size_append]; omega))) ?_
     refine AL.rp rfl rfl (rp_assign rfl rfl) ?_
     refine AL.nil ?_
     try simp only [thenS, S.put]
     refine AW.seq ?_
     refine AW.region ?_
     (first | (refine AL.rp rfl rfl (rp_field_ref Tryd.underlying60 rfl rfl rfl inf9 (by decide) rfl) ?_) | (refine AL.rp rfl rfl (rp_field_ad Tryd.underlying60 rfl rfl rfl inf9 (by decide) rfl) ?_))
     (first | (refine AL.st rfl (st_store_map2 inf9 rfl rfl rfl rfl rfl rfl rfl rfl (by first | assumption | omega)) ?_) | (refine AL.st rfl (st_store inf9 rfl rfl rfl rfl rfl rfl rfl (by first | decide | (simp; done)) rfl) ?_))
     refine AL.nil ?_
     try simp only [thenS, S.put, S.newObj, setL, V.cs, List.length_cons, List.length_nil, List.take_succ_cons, List.take_zero, List.drop_succ_cons, List.drop_zero, List.drop_nil, List.nil_append, List.cons_append, List.append_nil, Nat.zero_add, Nat.reduceAdd, List.map_cons, List.map_nil, List.set_cons_zero, List.set_cons_succ]
     refine AW.exit ?_
     try simp only [thenS, inBlockS, ↓reduceIte, Nat.reduceEqDiff]
     refine ⟨μ - 1, _, ?_, ⟨j + 1, L ++ (⟨#[32]⟩ ++ xn), ⟨0, Rt, Ra, Rb, ⟨#[]⟩⟩, by omega, rfl, by (simp only [ByteArray.size_append]; omega), hI, rfl⟩, by omega⟩
     exact (Less.of rfl (by repeat (first | exact trivial | refine ⟨⟨_, rfl, Wk.refl _⟩, ?_⟩ | refine ⟨⟨_, rfl, Wk.nil _ _⟩, ?_⟩ | refine ⟨⟨_, rfl, Wk.junk _⟩, ?_⟩)) (by repeat (first | exact trivial | refine ⟨rfl, ?_⟩)) rfl)
    ·have hnm' : nmB xn.data.toList = false := by simpa using hnm
     have hcn := am_scName xn
     rw [hnm'] at hcn
     rw [proc_nF h110 hnm'] at hI
     rw [hI, prR_err (by decide)] at hspec
     simp only [Prod.mk.injEq] at hspec
     obtain ⟨rfl, rfl⟩ := hspec
     refine AW.seq ?_
     refine AW.region ?_
     (first | (refine AL.st rfl (st_next rfl rfl (by assumption) (by omega) rfl (by first | rfl | (simp [S.put, S.newObj, setL, V.cs, V.mpsL, V.mps, D.mps, D.mpsL, D.mpsR]; done)) (by first | rfl | (simp [S.put, S.newObj, setL, V.cs, V.mpsL, V.mps, D.mps, D.mpsL, D.mpsR]; done)) (by first | rfl | (simp [S.put]; done)) rfl) ?_; simp only [S.put, List.map_cons, List.map_nil, upI_p, upI_ref, upI_junk, upI_it]) | (refine AL.rd rfl rfl (rd_nextEnd rfl rfl (by omega)) ?_))
     refine AL.rp rfl rfl (rp_extract rfl rfl rfl) ?_
     refine AL.nil ?_
     try simp only [thenS, S.put, S.newObj, setL, V.cs, List.length_cons, List.length_nil, List.take_succ_cons, List.take_zero, List.drop_succ_cons, List.drop_zero, List.drop_nil, List.nil_append, List.cons_append, List.append_nil, Nat.zero_add, Nat.reduceAdd, List.map_cons, List.map_nil, List.set_cons_zero, List.set_cons_succ]
     refine AW.seq ?_
     refine AW.condT rfl ?_
     refine AW.skip ?_
     try simp only [thenS]
     refine AW.block ?_
     refine AW.seq ?_
     refine AW.region ?_
     refine AL.rp rfl rfl (rp_extract rfl rfl rfl) ?_
     refine AL.rp rfl rfl (rp_assign rfl rfl) ?_
     refine AL.nil ?_
     try simp only [thenS, S.put]
     refine AW.seq ?_
     refine AW.seq ?_
     refine AW.region ?_
     refine AL.rp rfl rfl (rp_move rfl rfl) ?_
     (first | (refine AL.rp rfl rfl (rp_eqlT rfl rfl rfl (by first | assumption | omega | (dsimp only; omega))) ?_) | (refine AL.rp rfl rfl (rp_eqlF rfl rfl rfl (by first | assumption | omega | (dsimp only; omega))) ?_) | (refine AL.rp rfl rfl (rp_eql rfl rfl rfl) ?_))
     refine AL.nil ?_
     try simp only [thenS, S.put]
     refine AW.condT rfl ?_
     refine AW.seq ?_
     refine AW.seq ?_
     refine AW.region ?_
     (first | (refine AL.rp rfl rfl (rp_field_ref Tryd.underlying60 rfl rfl rfl inf9 (by decide) rfl) ?_) | (refine AL.rp rfl rfl (rp_field_ad Tryd.underlying60 rfl rfl rfl inf9 (by decide) rfl) ?_))
     (first | (refine AL.rd rfl rfl (rd_load_ref Tryd.underlying9 rfl rfl rfl rfl rfl rfl) ?_) | (refine AL.rd rfl rfl (rd_load_ad Tryd.underlying9 rfl rfl rfl rfl) ?_) | (refine AL.rd rfl rfl (rd_load_map Tryd.underlying9 rfl rfl rfl rfl rfl rfl (by assumption)) ?_) | (refine AL.rd rfl rfl (rd_load_flat Tryd.underlying9 rfl rfl rfl rfl rfl rfl (fun _ => rfl) (by assumption) rfl) ?_))
     refine AL.call (post := ?pc8) rfl (sm_call (args := [_]) ?hc8 ⟨Tryd.func51, rfl, rfl, rfl, rfl⟩ rfl rfl rfl rfl) ?_
     case hc8 => exact hcn
     rintro _ rfl -
     try dsimp only
     refine AL.rp rfl rfl (rp_not rfl rfl) ?_
     refine AL.nil ?_
     try simp only [thenS, S.put, S.newObj, setL, V.cs, List.length_cons, List.length_nil, List.take_succ_cons, List.take_zero, List.drop_succ_cons, List.drop_zero, List.drop_nil, List.nil_append, List.cons_append, List.append_nil, Nat.zero_add, Nat.reduceAdd, List.map_cons, List.map_nil, List.set_cons_zero, List.set_cons_succ]
     refine AW.condT rfl ?_
     refine AW.seq ?_
     refine AW.region ?_
     refine AL.rp rfl rfl (rp_assign rfl rfl) ?_
     refine AL.rp rfl rfl (rp_assign rfl rfl) ?_
     refine AL.nil ?_
     try simp only [thenS, S.put]
     refine AW.ret ?_
     exact ⟨[_, _], ⟨rfl, rfl, trivial⟩, rfl, by simp [tupOf, V.pure, V.has, V.hasL]⟩
   ·by_cases h116 : b.toNat = 116
    ·skip
     have hfl : fldS ⟨k, xt, xa, xb, xn⟩ b.toNat = xt := by simp [fldS, h116]
     have hzr : zerS ⟨0, Rt, Ra, Rb, Rn⟩ b.toNat = ⟨0, 0, Ra, Rb, Rn⟩ := by simp [zerS, h116]
     by_cases hr : rgOk xt
     ·rw [proc_r h110 (by rw [hfl]; exact hr), hfl, hzr] at hI
      obtain ⟨r1, r2⟩ : 0 ≤ xt ∧ xt ≤ 25 := hr
      have hsu : (⟨#[UInt8.ofNat (97 + xt.toNat)]⟩ : ByteArray).size = 1 := rfl
      refine AW.seq ?_
      refine AW.region ?_
      (first | (refine AL.st rfl (st_next rfl rfl (by assumption) (by omega) rfl (by first | rfl | (simp [S.put, S.newObj, setL, V.cs, V.mpsL, V.mps, D.mps, D.mpsL, D.mpsR]; done)) (by first | rfl | (simp [S.put, S.newObj, setL, V.cs, V.mpsL, V.mps, D.mps, D.mpsL, D.mpsR]; done)) (by first | rfl | (simp [S.put]; done)) rfl) ?_; simp only [S.put, List.map_cons, List.map_nil, upI_p, upI_ref, upI_junk, upI_it]) | (refine AL.rd rfl rfl (rd_nextEnd rfl rfl (by omega)) ?_))
      refine AL.rp rfl rfl (rp_extract rfl rfl rfl) ?_
      refine AL.nil ?_
      try simp only [thenS, S.put, S.newObj, setL, V.cs, List.length_cons, List.length_nil, List.take_succ_cons, List.take_zero, List.drop_succ_cons, List.drop_zero, List.drop_nil, List.nil_append, List.cons_append, List.append_nil, Nat.zero_add, Nat.reduceAdd, List.map_cons, List.map_nil, List.set_cons_zero, List.set_cons_succ]
      refine AW.seq ?_
      refine AW.condT rfl ?_
      refine AW.skip ?_
      try simp only [thenS]
      refine AW.block ?_
      refine AW.seq ?_
      refine AW.region ?_
      refine AL.rp rfl rfl (rp_extract rfl rfl rfl) ?_
      refine AL.rp rfl rfl (rp_assign rfl rfl) ?_
      refine AL.nil ?_
      try simp only [thenS, S.put]
      refine AW.seq ?_
      refine AW.seq ?_
      refine AW.region ?_
      refine AL.rp rfl rfl (rp_move rfl rfl) ?_
      (first | (refine AL.rp rfl rfl (rp_eqlT rfl rfl rfl (by first | assumption | omega | (dsimp only; omega))) ?_) | (refine AL.rp rfl rfl (rp_eqlF rfl rfl rfl (by first | assumption | omega | (dsimp only; omega))) ?_) | (refine AL.rp rfl rfl (rp_eql rfl rfl rfl) ?_))
      refine AL.nil ?_
      try simp only [thenS, S.put]
      refine AW.condF rfl ?_
      refine AW.skip ?_
      try simp only [thenS]
      refine AW.seq ?_
      refine AW.region ?_
      refine AL.rp rfl rfl (rp_move rfl rfl) ?_
      try simp only [S.put, S.newObj, setL, V.cs, List.length_cons, List.length_nil, List.take_succ_cons, List.take_zero, List.drop_succ_cons, List.drop_zero, List.drop_nil, List.nil_append, List.cons_append, List.append_nil, Nat.zero_add, Nat.reduceAdd]
      refine AL.pc [1, 5, 6, 8, 29] (ts := [_, _, _, _, _]) (args := [_, _]) (post := ?pc9) ?hc9 rfl rfl rfl rfl rfl rfl rfl rfl rfl ?_
      case hc9 => (refine pc_fieldT 1 (b.toNat : Int) (by omega) _ _ <;> first | rfl | (simp [V.lowL, V.low]; done))
      rintro _ _ _ ⟨rfl, rfl, rfl⟩
      simp only [back, S.put, List.cons_append, List.nil_append, List.zip_cons_cons, List.zip_nil_left, List.drop_succ_cons, List.drop_zero, List.length_cons, List.length_nil, Nat.zero_add, Nat.reduceAdd]
      (first | (refine AL.rp rfl rfl (rp_nilCheck rfl rfl) ?_) | (refine AL.rp rfl rfl (rp_nilCheck_ad rfl rfl) ?_))
      (first | (refine AL.rd rfl rfl (rd_load_ref Tryd.underlying3 rfl rfl rfl rfl rfl rfl) ?_) | (refine AL.rd rfl rfl (rd_load_ad Tryd.underlying3 rfl rfl rfl rfl) ?_) | (refine AL.rd rfl rfl (rd_load_map Tryd.underlying3 rfl rfl rfl rfl rfl rfl (by assumption)) ?_) | (refine AL.rd rfl rfl (rd_load_flat Tryd.underlying3 rfl rfl rfl rfl rfl rfl (fun _ => rfl) (by assumption) rfl) ?_))
      refine AL.rp rfl rfl (rp_assign rfl rfl) ?_
      refine AL.nil ?_
      try simp only [thenS, S.put]
      refine AW.seq ?_
      refine AW.seq ?_
      refine AW.region ?_
      refine AL.rp rfl rfl (rp_move rfl rfl) ?_
      (first | (refine AL.rp rfl rfl (rp_lssT rfl rfl rfl (by first | assumption | omega | (dsimp only; omega))) ?_) | (refine AL.rp rfl rfl (rp_lssF rfl rfl rfl (by first | assumption | omega | (dsimp only; omega))) ?_) | (refine AL.rp rfl rfl (rp_lss rfl rfl rfl) ?_))
      refine AL.rp rfl rfl (rp_move rfl rfl) ?_
      (first | (refine AL.noV rfl rfl rfl rfl ?_) | (refine AL.noU rfl ⟨_, rfl, rfl⟩ rfl ?_) | (refine AL.rpy rfl rfl rfl (rp_move rfl rfl) ?_))
      (first | (refine AL.noV rfl rfl rfl rfl ?_) | (refine AL.noU rfl ⟨_, rfl, rfl⟩ rfl ?_) | (refine AL.rpy rfl rfl rfl (rp_gtrT rfl rfl rfl (by first | assumption | omega | (dsimp only; omega))) ?_) | (refine AL.rpy rfl rfl rfl (rp_gtrF rfl rfl rfl (by first | assumption | omega | (dsimp only; omega))) ?_) | (refine AL.rpy rfl rfl rfl (rp_gtr rfl rfl rfl) ?_))
      refine AL.rp rfl rfl (rp_pick rfl rfl rfl) ?_
      refine AL.nil ?_
      try simp only [thenS, S.put]
      refine AW.condF rfl ?_
      refine AW.skip ?_
      try simp only [thenS]
      refine AW.seq ?_
      refine AW.region ?_
      refine AL.rp rfl rfl (rp_move rfl rfl) ?_
      refine AL.rp rfl rfl (rp_move rfl rfl) ?_
      refine AL.rp rfl rfl (rp_add rfl rfl rfl (by first | omega | (dsimp only; omega))) ?_
      refine AL.rp rfl rfl (rp_conv32 Tryd.underlying3 Tryd.underlying21 rfl rfl (by omega)) ?_
      refine AL.rp rfl rfl (rp_runeStr (m := 97 + xt.toNat) Tryd.underlying21 Tryd.underlying9 rfl rfl (by first | rfl | omega) (by omega)) ?_
      refine AL.rp rfl rfl (rp_adds rfl rfl rfl (by first | assumption | omega | (simp only [ByteArray.size_append]; omega))) ?_
      refine AL.rp rfl rfl (rp_adds rfl rfl rfl (by first | assumption | omega | (simp only [ByteArray.size_append]; omega))) ?_
      refine AL.rp rfl rfl (rp_assign rfl rfl) ?_
      refine AL.nil ?_
      try simp only [thenS, S.put]
      refine AW.region ?_
      refine AL.rp rfl rfl (rp_move rfl rfl) ?_
      try simp only [S.put, S.newObj, setL, V.cs, List.length_cons, List.length_nil, List.take_succ_cons, List.take_zero, List.drop_succ_cons, List.drop_zero, List.drop_nil, List.nil_append, List.cons_append, List.append_nil, Nat.zero_add, Nat.reduceAdd]
      refine AL.pc [1, 5, 6, 29] (ts := [_, _, _, _]) (args := [_, _]) (post := ?pc10) ?hc10 rfl rfl rfl rfl rfl rfl rfl rfl rfl ?_
      case hc10 => (refine pc_fieldT 6 (b.toNat : Int) (by omega) _ _ <;> first | rfl | (simp [V.lowL, V.low]; done))
      rintro _ _ _ ⟨rfl, rfl, rfl⟩
      simp only [back, S.put, List.cons_append, List.nil_append, List.zip_cons_cons, List.zip_nil_left, List.drop_succ_cons, List.drop_zero, List.length_cons, List.length_nil, Nat.zero_add, Nat.reduceAdd]
      (first | (refine AL.rp rfl rfl (rp_nilCheck rfl rfl) ?_) | (refine AL.rp rfl rfl (rp_nilCheck_ad rfl rfl) ?_))
      (first | (refine AL.st rfl (st_store_map2 inf3 rfl rfl rfl rfl rfl rfl rfl rfl (by first | assumption | omega)) ?_) | (refine AL.st rfl (st_store inf3 rfl rfl rfl rfl rfl rfl rfl (by first | decide | (simp; done)) rfl) ?_))
      refine AL.nil ?_
      try simp only [thenS, S.put, S.newObj, setL, V.cs, List.length_cons, List.length_nil, List.take_succ_cons, List.take_zero, List.drop_succ_cons, List.drop_zero, List.drop_nil, List.nil_append, List.cons_append, List.append_nil, Nat.zero_add, Nat.reduceAdd, List.map_cons, List.map_nil, List.set_cons_zero, List.set_cons_succ]
      refine ⟨μ - 1, _, ?_, ⟨j + 1, L ++ (⟨#[32]⟩ ++ ⟨#[UInt8.ofNat (97 + xt.toNat)]⟩), ⟨0, 0, Ra, Rb, Rn⟩, by omega, rfl, by (simp only [ByteArray.size_append]; omega), hI, rfl⟩, by omega⟩
      exact (Less.of rfl (by repeat (first | exact trivial | refine ⟨⟨_, rfl, Wk.refl _⟩, ?_⟩ | refine ⟨⟨_, rfl, Wk.nil _ _⟩, ?_⟩ | refine ⟨⟨_, rfl, Wk.junk _⟩, ?_⟩)) (by repeat (first | exact trivial | refine ⟨rfl, ?_⟩)) rfl)
     ·rw [proc_rF h110 (by rw [hfl]; exact hr)] at hI
      rw [hI, prR_err (by decide)] at hspec
      simp only [Prod.mk.injEq] at hspec
      obtain ⟨rfl, rfl⟩ := hspec
      unfold rgOk at hr
      by_cases hneg : xt < 0
      ·skip
       refine AW.seq ?_
       refine AW.region ?_
       (first | (refine AL.st rfl (st_next rfl rfl (by assumption) (by omega) rfl (by first | rfl | (simp [S.put, S.newObj, setL, V.cs, V.mpsL, V.mps, D.mps, D.mpsL, D.mpsR]; done)) (by first | rfl | (simp [S.put, S.newObj, setL, V.cs, V.mpsL, V.mps, D.mps, D.mpsL, D.mpsR]; done)) (by first | rfl | (simp [S.put]; done)) rfl) ?_; simp only [S.put, List.map_cons, List.map_nil, upI_p, upI_ref, upI_junk, upI_it]) | (refine AL.rd rfl rfl (rd_nextEnd rfl rfl (by omega)) ?_))
       refine AL.rp rfl rfl (rp_extract rfl rfl rfl) ?_
       refine AL.nil ?_
       try simp only [thenS, S.put, S.newObj, setL, V.cs, List.length_cons, List.length_nil, List.take_succ_cons, List.take_zero, List.drop_succ_cons, List.drop_zero, List.drop_nil, List.nil_append, List.cons_append, List.append_nil, Nat.zero_add, Nat.reduceAdd, List.map_cons, List.map_nil, List.set_cons_zero, List.set_cons_succ]
       refine AW.seq ?_
       refine AW.condT rfl ?_
       refine AW.skip ?_
       try simp only [thenS]
       refine AW.block ?_
       refine AW.seq ?_
       refine AW.region ?_
       refine AL.rp rfl rfl (rp_extract rfl rfl rfl) ?_
       refine AL.rp rfl rfl (rp_assign rfl rfl) ?_
       refine AL.nil ?_
       try simp only [thenS, S.put]
       refine AW.seq ?_
       refine AW.seq ?_
       refine AW.region ?_
       refine AL.rp rfl rfl (rp_move rfl rfl) ?_
       (first | (refine AL.rp rfl rfl (rp_eqlT rfl rfl rfl (by first | assumption | omega | (dsimp only; omega))) ?_) | (refine AL.rp rfl rfl (rp_eqlF rfl rfl rfl (by first | assumption | omega | (dsimp only; omega))) ?_) | (refine AL.rp rfl rfl (rp_eql rfl rfl rfl) ?_))
       refine AL.nil ?_
       try simp only [thenS, S.put]
       refine AW.condF rfl ?_
       refine AW.skip ?_
       try simp only [thenS]
       refine AW.seq ?_
       refine AW.region ?_
       refine AL.rp rfl rfl (rp_move rfl rfl) ?_
       try simp only [S.put, S.newObj, setL, V.cs, List.length_cons, List.length_nil, List.take_succ_cons, List.take_zero, List.drop_succ_cons, List.drop_zero, List.drop_nil, List.nil_append, List.cons_append, List.append_nil, Nat.zero_add, Nat.reduceAdd]
       refine AL.pc [1, 5, 6, 8, 29] (ts := [_, _, _, _, _]) (args := [_, _]) (post := ?pc11) ?hc11 rfl rfl rfl rfl rfl rfl rfl rfl rfl ?_
       case hc11 => (refine pc_fieldT 1 (b.toNat : Int) (by omega) _ _ <;> first | rfl | (simp [V.lowL, V.low]; done))
       rintro _ _ _ ⟨rfl, rfl, rfl⟩
       simp only [back, S.put, List.cons_append, List.nil_append, List.zip_cons_cons, List.zip_nil_left, List.drop_succ_cons, List.drop_zero, List.length_cons, List.length_nil, Nat.zero_add, Nat.reduceAdd]
       (first | (refine AL.rp rfl rfl (rp_nilCheck rfl rfl) ?_) | (refine AL.rp rfl rfl (rp_nilCheck_ad rfl rfl) ?_))
       (first | (refine AL.rd rfl rfl (rd_load_ref Tryd.underlying3 rfl rfl rfl rfl rfl rfl) ?_) | (refine AL.rd rfl rfl (rd_load_ad Tryd.underlying3 rfl rfl rfl rfl) ?_) | (refine AL.rd rfl rfl (rd_load_map Tryd.underlying3 rfl rfl rfl rfl rfl rfl (by assumption)) ?_) | (refine AL.rd rfl rfl (rd_load_flat Tryd.underlying3 rfl rfl rfl rfl rfl rfl (fun _ => rfl) (by assumption) rfl) ?_))
       refine AL.rp rfl rfl (rp_assign rfl rfl) ?_
       refine AL.nil ?_
       try simp only [thenS, S.put]
       refine AW.seq ?_
       refine AW.seq ?_
       refine AW.region ?_
       refine AL.rp rfl rfl (rp_move rfl rfl) ?_
       (first | (refine AL.rp rfl rfl (rp_lssT rfl rfl rfl (by first | assumption | omega | (dsimp only; omega))) ?_) | (refine AL.rp rfl rfl (rp_lssF rfl rfl rfl (by first | assumption | omega | (dsimp only; omega))) ?_) | (refine AL.rp rfl rfl (rp_lss rfl rfl rfl) ?_))
       refine AL.rp rfl rfl (rp_move rfl rfl) ?_
       (first | (refine AL.noV rfl rfl rfl rfl ?_) | (refine AL.noU rfl ⟨_, rfl, rfl⟩ rfl ?_) | (refine AL.rpy rfl rfl rfl (rp_move rfl rfl) ?_))
       (first | (refine AL.noV rfl rfl rfl rfl ?_) | (refine AL.noU rfl ⟨_, rfl, rfl⟩ rfl ?_) | (refine AL.rpy rfl rfl rfl (rp_gtrT rfl rfl rfl (by first | assumption | omega | (dsimp only; omega))) ?_) | (refine AL.rpy rfl rfl rfl (rp_gtrF rfl rfl rfl (by first | assumption | omega | (dsimp only; omega))) ?_) | (refine AL.rpy rfl rfl rfl (rp_gtr rfl rfl rfl) ?_))
       refine AL.rp rfl rfl (rp_pick rfl rfl rfl) ?_
       refine AL.nil ?_
       try simp only [thenS, S.put]
       refine AW.condT rfl ?_
       refine AW.seq ?_
       refine AW.region ?_
       refine AL.rp rfl rfl (rp_assign rfl rfl) ?_
       refine AL.rp rfl rfl (rp_assign rfl rfl) ?_
       refine AL.nil ?_
       try simp only [thenS, S.put]
       refine AW.ret ?_
       exact ⟨[_, _], ⟨rfl, rfl, trivial⟩, rfl, by simp [tupOf, V.pure, V.has, V.hasL]⟩
      ·have hbig : 25 < xt := by omega
       refine AW.seq ?_
       refine AW.region ?_
       (first | (refine AL.st rfl (st_next rfl rfl (by assumption) (by omega) rfl (by first | rfl | (simp [S.put, S.newObj, setL, V.cs, V.mpsL, V.mps, D.mps, D.mpsL, D.mpsR]; done)) (by first | rfl | (simp [S.put, S.newObj, setL, V.cs, V.mpsL, V.mps, D.mps, D.mpsL, D.mpsR]; done)) (by first | rfl | (simp [S.put]; done)) rfl) ?_; simp only [S.put, List.map_cons, List.map_nil, upI_p, upI_ref, upI_junk, upI_it]) | (refine AL.rd rfl rfl (rd_nextEnd rfl rfl (by omega)) ?_))
       refine AL.rp rfl rfl (rp_extract rfl rfl rfl) ?_
       refine AL.nil ?_
       try simp only [thenS, S.put, S.newObj, setL, V.cs, List.length_cons, List.length_nil, List.take_succ_cons, List.take_zero, List.drop_succ_cons, List.drop_zero, List.drop_nil, List.nil_append, List.cons_append, List.append_nil, Nat.zero_add, Nat.reduceAdd, List.map_cons, List.map_nil, List.set_cons_zero, List.set_cons_succ]
       refine AW.seq ?_
       refine AW.condT rfl ?_
       refine AW.skip ?_
       try simp only [thenS]
       refine AW.block ?_
       refine AW.seq ?_
       refine AW.region ?_
       refine AL.rp rfl rfl (rp_extract rfl rfl rfl) ?_
       refine AL.rp rfl rfl (rp_assign rfl rfl) ?_
       refine AL.nil ?_
       try simp only [thenS, S.put]
       refine AW.seq ?_
       refine AW.seq ?_
       refine AW.region ?_
       refine AL.rp rfl rfl (rp_move rfl rfl) ?_
       (first | (refine AL.rp rfl rfl (rp_eqlT rfl rfl rfl (by first | assumption | omega | (dsimp only; omega))) ?_) | (refine AL.rp rfl rfl (rp_eqlF rfl rfl rfl (by first | assumption | omega | (dsimp only; omega))) ?_) | (refine AL.rp rfl rfl (rp_eql rfl rfl rfl) ?_))
       refine AL.nil ?_
       try simp only [thenS, S.put]
       refine AW.condF rfl ?_
       refine AW.skip ?_
       try simp only [thenS]
       refine AW.seq ?_
       refine AW.region ?_
       refine AL.rp rfl rfl (rp_move rfl rfl) ?_
       try simp only [S.put, S.newObj, setL, V.cs, List.length_cons, List.length_nil, List.take_succ_cons, List.take_zero, List.drop_succ_cons, List.drop_zero, List.drop_nil, List.nil_append, List.cons_append, List.append_nil, Nat.zero_add, Nat.reduceAdd]
       refine AL.pc [1, 5, 6, 8, 29] (ts := [_, _, _, _, _]) (args := [_, _]) (post := ?pc12) ?hc12 rfl rfl rfl rfl rfl rfl rfl rfl rfl ?_
       case hc12 => (refine pc_fieldT 1 (b.toNat : Int) (by omega) _ _ <;> first | rfl | (simp [V.lowL, V.low]; done))
       rintro _ _ _ ⟨rfl, rfl, rfl⟩
       simp only [back, S.put, List.cons_append, List.nil_append, List.zip_cons_cons, List.zip_nil_left, List.drop_succ_cons, List.drop_zero, List.length_cons, List.length_nil, Nat.zero_add, Nat.reduceAdd]
       (first | (refine AL.rp rfl rfl (rp_nilCheck rfl rfl) ?_) | (refine AL.rp rfl rfl (rp_nilCheck_ad rfl rfl) ?_))
       (first | (refine AL.rd rfl rfl (rd_load_ref Tryd.underlying3 rfl rfl rfl rfl rfl rfl) ?_) | (refine AL.rd rfl rfl (rd_load_ad Tryd.underlying3 rfl rfl rfl rfl) ?_) | (refine AL.rd rfl rfl (rd_load_map Tryd.underlying3 rfl rfl rfl rfl rfl rfl (by assumption)) ?_) | (refine AL.rd rfl rfl (rd_load_flat Tryd.underlying3 rfl rfl rfl rfl rfl rfl (fun _ => rfl) (by assumption) rfl) ?_))
       refine AL.rp rfl rfl (rp_assign rfl rfl) ?_
       refine AL.nil ?_
       try simp only [thenS, S.put]
       refine AW.seq ?_
       refine AW.seq ?_
       refine AW.region ?_
       refine AL.rp rfl rfl (rp_move rfl rfl) ?_
       (first | (refine AL.rp rfl rfl (rp_lssT rfl rfl rfl (by first | assumption | omega | (dsimp only; omega))) ?_) | (refine AL.rp rfl rfl (rp_lssF rfl rfl rfl (by first | assumption | omega | (dsimp only; omega))) ?_) | (refine AL.rp rfl rfl (rp_lss rfl rfl rfl) ?_))
       refine AL.rp rfl rfl (rp_move rfl rfl) ?_
       (first | (refine AL.noV rfl rfl rfl rfl ?_) | (refine AL.noU rfl ⟨_, rfl, rfl⟩ rfl ?_) | (refine AL.rpy rfl rfl rfl (rp_move rfl rfl) ?_))
       (first | (refine AL.noV rfl rfl rfl rfl ?_) | (refine AL.noU rfl ⟨_, rfl, rfl⟩ rfl ?_) | (refine AL.rpy rfl rfl rfl (rp_gtrT rfl rfl rfl (by first | assumption | omega | (dsimp only; omega))) ?_) | (refine AL.rpy rfl rfl rfl (rp_gtrF rfl rfl rfl (by first | assumption | omega | (dsimp only; omega))) ?_) | (refine AL.rpy rfl rfl rfl (rp_gtr rfl rfl rfl) ?_))
       refine AL.rp rfl rfl (rp_pick rfl rfl rfl) ?_
       refine AL.nil ?_
       try simp only [thenS, S.put]
       refine AW.condT rfl ?_
       refine AW.seq ?_
       refine AW.region ?_
       refine AL.rp rfl rfl (rp_assign rfl rfl) ?_
       refine AL.rp rfl rfl (rp_assign rfl rfl) ?_
       refine AL.nil ?_
       try simp only [thenS, S.put]
       refine AW.ret ?_
       exact ⟨[_, _], ⟨rfl, rfl, trivial⟩, rfl, by simp [tupOf, V.pure, V.has, V.hasL]⟩
    ·by_cases h97 : b.toNat = 97
     ·skip
      have hfl : fldS ⟨k, xt, xa, xb, xn⟩ b.toNat = xa := by simp [fldS, h97]
      have hzr : zerS ⟨0, Rt, Ra, Rb, Rn⟩ b.toNat = ⟨0, Rt, 0, Rb, Rn⟩ := by simp [zerS, h97]
      by_cases hr : rgOk xa
      ·rw [proc_r h110 (by rw [hfl]; exact hr), hfl, hzr] at hI
       obtain ⟨r1, r2⟩ : 0 ≤ xa ∧ xa ≤ 25 := hr
       have hsu : (⟨#[UInt8.ofNat (97 + xa.toNat)]⟩ : ByteArray).size = 1 := rfl
       refine AW.seq ?_
       refine AW.region ?_
       (first | (refine AL.st rfl (st_next rfl rfl (by assumption) (by omega) rfl (by first | rfl | (simp [S.put, S.newObj, setL, V.cs, V.mpsL, V.mps, D.mps, D.mpsL, D.mpsR]; done)) (by first | rfl | (simp [S.put, S.newObj, setL, V.cs, V.mpsL, V.mps, D.mps, D.mpsL, D.mpsR]; done)) (by first | rfl | (simp [S.put]; done)) rfl) ?_; simp only [S.put, List.map_cons, List.map_nil, upI_p, upI_ref, upI_junk, upI_it]) | (refine AL.rd rfl rfl (rd_nextEnd rfl rfl (by omega)) ?_))
       refine AL.rp rfl rfl (rp_extract rfl rfl rfl) ?_
       refine AL.nil ?_
       try simp only [thenS, S.put, S.newObj, setL, V.cs, List.length_cons, List.length_nil, List.take_succ_cons, List.take_zero, List.drop_succ_cons, List.drop_zero, List.drop_nil, List.nil_append, List.cons_append, List.append_nil, Nat.zero_add, Nat.reduceAdd, List.map_cons, List.map_nil, List.set_cons_zero, List.set_cons_succ]
       refine AW.seq ?_
       refine AW.condT rfl ?_
       refine AW.skip ?_
       try simp only [thenS]
       refine AW.block ?_
       refine AW.seq ?_
       refine AW.region ?_
       refine AL.rp rfl rfl (rp_extract rfl rfl rfl) ?_
       refine AL.rp rfl rfl (rp_assign rfl rfl) ?_
       refine AL.nil ?_
       try simp only [thenS, S.put]
       refine AW.seq ?_
       refine AW.seq ?_
       refine AW.region ?_
       refine AL.rp rfl rfl (rp_move rfl rfl) ?_
       (first | (refine AL.rp rfl rfl (rp_eqlT rfl rfl rfl (by first | assumption | omega | (dsimp only; omega))) ?_) | (refine AL.rp rfl rfl (rp_eqlF rfl rfl rfl (by first | assumption | omega | (dsimp only; omega))) ?_) | (refine AL.rp rfl rfl (rp_eql rfl rfl rfl) ?_))
       refine AL.nil ?_
       try simp only [thenS, S.put]
       refine AW.condF rfl ?_
       refine AW.skip ?_
       try simp only [thenS]
       refine AW.seq ?_
       refine AW.region ?_
       refine AL.rp rfl rfl (rp_move rfl rfl) ?_
       try simp only [S.put, S.newObj, setL, V.cs, List.length_cons, List.length_nil, List.take_succ_cons, List.take_zero, List.drop_succ_cons, List.drop_zero, List.drop_nil, List.nil_append, List.cons_append, List.append_nil, Nat.zero_add, Nat.reduceAdd]
       refine AL.pc [1, 5, 6, 8, 29] (ts := [_, _, _, _, _]) (args := [_, _]) (post := ?pc13) ?hc13 rfl rfl rfl rfl rfl rfl rfl rfl rfl ?_
       case hc13 => (refine pc_fieldA 1 (b.toNat : Int) (by omega) _ _ <;> first | rfl | (simp [V.lowL, V.low]; done))
       rintro _ _ _ ⟨rfl, rfl, rfl⟩
       simp only [back, S.put, List.cons_append, List.nil_append, List.zip_cons_cons, List.zip_nil_left, List.drop_succ_cons, List.drop_zero, List.length_cons, List.length_nil, Nat.zero_add, Nat.reduceAdd]
       (first | (refine AL.rp rfl rfl (rp_nilCheck rfl rfl) ?_) | (refine AL.rp rfl rfl (rp_nilCheck_ad rfl rfl) ?_))
       (first | (refine AL.rd rfl rfl (rd_load_ref Tryd.underlying3 rfl rfl rfl rfl rfl rfl) ?_) | (refine AL.rd rfl rfl (rd_load_ad Tryd.underlying3 rfl rfl rfl rfl) ?_) | (refine AL.rd rfl rfl (rd_load_map Tryd.underlying3 rfl rfl rfl rfl rfl rfl (by assumption)) ?_) | (refine AL.rd rfl rfl (rd_load_flat Tryd.underlying3 rfl rfl rfl rfl rfl rfl (fun _ => rfl) (by assumption) rfl) ?_))
       refine AL.rp rfl rfl (rp_assign rfl rfl) ?_
       refine AL.nil ?_
       try simp only [thenS, S.put]
       refine AW.seq ?_
       refine AW.seq ?_
       refine AW.region ?_
       refine AL.rp rfl rfl (rp_move rfl rfl) ?_
       (first | (refine AL.rp rfl rfl (rp_lssT rfl rfl rfl (by first | assumption | omega | (dsimp only; omega))) ?_) | (refine AL.rp rfl rfl (rp_lssF rfl rfl rfl (by first | assumption | omega | (dsimp only; omega))) ?_) | (refine AL.rp rfl rfl (rp_lss rfl rfl rfl) ?_))
       refine AL.rp rfl rfl (rp_move rfl rfl) ?_
       (first | (refine AL.noV rfl rfl rfl rfl ?_) | (refine AL.noU rfl ⟨_, rfl, rfl⟩ rfl ?_) | (refine AL.rpy rfl rfl rfl (rp_move rfl rfl) ?_))
       (first | (refine AL.noV rfl rfl rfl rfl ?_) | (refine AL.noU rfl ⟨_, rfl, rfl⟩ rfl ?_) | (refine AL.rpy rfl rfl rfl (rp_gtrT rfl rfl rfl (by first | assumption | omega | (dsimp only; omega))) ?_) | (refine AL.rpy rfl rfl rfl (rp_gtrF rfl rfl rfl (by first | assumption | omega | (dsimp only; omega))) ?_) | (refine AL.rpy rfl rfl rfl (rp_gtr rfl rfl rfl) ?_))
       refine AL.rp rfl rfl (rp_pick rfl rfl rfl) ?_
       refine AL.nil ?_
       try simp only [thenS, S.put]
       refine AW.condF rfl ?_
       refine AW.skip ?_
       try simp only [thenS]
       refine AW.seq ?_
       refine AW.region ?_
       refine AL.rp rfl rfl (rp_move rfl rfl) ?_
       refine AL.rp rfl rfl (rp_move rfl rfl) ?_
       refine AL.rp rfl rfl (rp_add rfl rfl rfl (by first | omega | (dsimp only; omega))) ?_
       refine AL.rp rfl rfl (rp_conv32 Tryd.underlying3 Tryd.underlying21 rfl rfl (by omega)) ?_
       refine AL.rp rfl rfl (rp_runeStr (m := 97 + xa.toNat) Tryd.underlying21 Tryd.underlying9 rfl rfl (by first | rfl | omega) (by omega)) ?_
       refine AL.rp rfl rfl (rp_adds rfl rfl rfl (by first | assumption | omega | (simp only [ByteArray.size_append]; omega))) ?_
       refine AL.rp rfl rfl (rp_adds rfl rfl rfl (by first | assumption | omega | (simp only [ByteArray.size_append]; omega))) ?_
       refine AL.rp rfl rfl (rp_assign rfl rfl) ?_
       refine AL.nil ?_
       try simp only [thenS, S.put]
       refine AW.region ?_
       refine AL.rp rfl rfl (rp_move rfl rfl) ?_
       try simp only [S.put, S.newObj, setL, V.cs, List.length_cons, List.length_nil, List.take_succ_cons, List.take_zero, List.drop_succ_cons, List.drop_zero, List.drop_nil, List.nil_append, List.cons_append, List.append_nil, Nat.zero_add, Nat.reduceAdd]
       refine AL.pc [1, 5, 6, 29] (ts := [_, _, _, _]) (args := [_, _]) (post := ?pc14) ?hc14 rfl rfl rfl rfl rfl rfl rfl rfl rfl ?_
       case hc14 => (refine pc_fieldA 6 (b.toNat : Int) (by omega) _ _ <;> first | rfl | (simp [V.lowL, V.low]; done))
       rintro _ _ _ ⟨rfl, rfl, rfl⟩
       simp only [back, S.put, List.cons_append, List.nil_append, List.zip_cons_cons, List.zip_nil_left, List.drop_succ_cons, List.drop_zero, List.length_cons, List.length_nil, Nat.zero_add, Nat.reduceAdd]
       (first | (refine AL.rp rfl rfl (rp_nilCheck rfl rfl) ?_) | (refine AL.rp rfl rfl (rp_nilCheck_ad rfl rfl) ?_))
       (first | (refine AL.st rfl (st_store_map2 inf3 rfl rfl rfl rfl rfl rfl rfl rfl (by first | assumption | omega)) ?_) | (refine AL.st rfl (st_store inf3 rfl rfl rfl rfl rfl rfl rfl (by first | decide | (simp; done)) rfl) ?_))
       refine AL.nil ?_
       try simp only [thenS, S.put, S.newObj, setL, V.cs, List.length_cons, List.length_nil, List.take_succ_cons, List.take_zero, List.drop_succ_cons, List.drop_zero, List.drop_nil, List.nil_append, List.cons_append, List.append_nil, Nat.zero_add, Nat.reduceAdd, List.map_cons, List.map_nil, List.set_cons_zero, List.set_cons_succ]
       refine ⟨μ - 1, _, ?_, ⟨j + 1, L ++ (⟨#[32]⟩ ++ ⟨#[UInt8.ofNat (97 + xa.toNat)]⟩), ⟨0, Rt, 0, Rb, Rn⟩, by omega, rfl, by (simp only [ByteArray.size_append]; omega), hI, rfl⟩, by omega⟩
       exact (Less.of rfl (by repeat (first | exact trivial | refine ⟨⟨_, rfl, Wk.refl _⟩, ?_⟩ | refine ⟨⟨_, rfl, Wk.nil _ _⟩, ?_⟩ | refine ⟨⟨_, rfl, Wk.junk _⟩, ?_⟩)) (by repeat (first | exact trivial | refine ⟨rfl, ?_⟩)) rfl)
      ·rw [proc_rF h110 (by rw [hfl]; exact hr)] at hI
       rw [hI, prR_err (by decide)] at hspec
       simp only [Prod.mk.injEq] at hspec
       obtain ⟨rfl, rfl⟩ := hspec
       unfold rgOk at hr
       by_cases hneg : xa < 0
       ·skip
        refine AW.seq ?_
        refine AW.region ?_
        (first | (refine AL.st rfl (st_next rfl rfl (by assumption) (by omega) rfl (by first | rfl | (simp [S.put, S.newObj, setL, V.cs, V.mpsL, V.mps, D.mps, D.mpsL, D.mpsR]; done)) (by first | rfl | (simp [S.put, S.newObj, setL, V.cs, V.mpsL, V.mps, D.mps, D.mpsL, D.mpsR]; done)) (by first | rfl | (simp [S.put]; done)) rfl) ?_; simp only [S.put, List.map_cons, List.map_nil, upI_p, upI_ref, upI_junk, upI_it]) | (refine AL.rd rfl rfl (rd_nextEnd rfl rfl (by omega)) ?_))
        refine AL.rp rfl rfl (rp_extract rfl rfl rfl) ?_
        refine AL.nil ?_
        try simp only [thenS, S.put, S.newObj, setL, V.cs, List.length_cons, List.length_nil, List.take_succ_cons, List.take_zero, List.drop_succ_cons, List.drop_zero, List.drop_nil, List.nil_append, List.cons_append, List.append_nil, Nat.zero_add, Nat.reduceAdd, List.map_cons, List.map_nil, List.set_cons_zero, List.set_cons_succ]
        refine AW.seq ?_
        refine AW.condT rfl ?_
        refine AW.skip ?_
        try simp only [thenS]
        refine AW.block ?_
        refine AW.seq ?_
        refine AW.region ?_
        refine AL.rp rfl rfl (rp_extract rfl rfl rfl) ?_
        refine AL.rp rfl rfl (rp_assign rfl rfl) ?_
        refine AL.nil ?_
        try simp only [thenS, S.put]
        refine AW.seq ?_
        refine AW.seq ?_
        refine AW.region ?_
        refine AL.rp rfl rfl (rp_move rfl rfl) ?_
        (first | (refine AL.rp rfl rfl (rp_eqlT rfl rfl rfl (by first | assumption | omega | (dsimp only; omega))) ?_) | (refine AL.rp rfl rfl (rp_eqlF rfl rfl rfl (by first | assumption | omega | (dsimp only; omega))) ?_) | (refine AL.rp rfl rfl (rp_eql rfl rfl rfl) ?_))
        refine AL.nil ?_
        try simp only [thenS, S.put]
        refine AW.condF rfl ?_
        refine AW.skip ?_
        try simp only [thenS]
        refine AW.seq ?_
        refine AW.region ?_
        refine AL.rp rfl rfl (rp_move rfl rfl) ?_
        try simp only [S.put, S.newObj, setL, V.cs, List.length_cons, List.length_nil, List.take_succ_cons, List.take_zero, List.drop_succ_cons, List.drop_zero, List.drop_nil, List.nil_append, List.cons_append, List.append_nil, Nat.zero_add, Nat.reduceAdd]
        refine AL.pc [1, 5, 6, 8, 29] (ts := [_, _, _, _, _]) (args := [_, _]) (post := ?pc15) ?hc15 rfl rfl rfl rfl rfl rfl rfl rfl rfl ?_
        case hc15 => (refine pc_fieldA 1 (b.toNat : Int) (by omega) _ _ <;> first | rfl | (simp [V.lowL, V.low]; done))
        rintro _ _ _ ⟨rfl, rfl, rfl⟩
        simp only [back, S.put, List.cons_append, List.nil_append, List.zip_cons_cons, List.zip_nil_left, List.drop_succ_cons, List.drop_zero, List.length_cons, List.length_nil, Nat.zero_add, Nat.reduceAdd]
        (first | (refine AL.rp rfl rfl (rp_nilCheck rfl rfl) ?_) | (refine AL.rp rfl rfl (rp_nilCheck_ad rfl rfl) ?_))
        (first | (refine AL.rd rfl rfl (rd_load_ref Tryd.underlying3 rfl rfl rfl rfl rfl rfl) ?_) | (refine AL.rd rfl rfl (rd_load_ad Tryd.underlying3 rfl rfl rfl rfl) ?_) | (refine AL.rd rfl rfl (rd_load_map Tryd.underlying3 rfl rfl rfl rfl rfl rfl (by assumption)) ?_) | (refine AL.rd rfl rfl (rd_load_flat Tryd.underlying3 rfl rfl rfl rfl rfl rfl (fun _ => rfl) (by assumption) rfl) ?_))
        refine AL.rp rfl rfl (rp_assign rfl rfl) ?_
        refine AL.nil ?_
        try simp only [thenS, S.put]
        refine AW.seq ?_
        refine AW.seq ?_
        refine AW.region ?_
        refine AL.rp rfl rfl (rp_move rfl rfl) ?_
        (first | (refine AL.rp rfl rfl (rp_lssT rfl rfl rfl (by first | assumption | omega | (dsimp only; omega))) ?_) | (refine AL.rp rfl rfl (rp_lssF rfl rfl rfl (by first | assumption | omega | (dsimp only; omega))) ?_) | (refine AL.rp rfl rfl (rp_lss rfl rfl rfl) ?_))
        refine AL.rp rfl rfl (rp_move rfl rfl) ?_
        (first | (refine AL.noV rfl rfl rfl rfl ?_) | (refine AL.noU rfl ⟨_, rfl, rfl⟩ rfl ?_) | (refine AL.rpy rfl rfl rfl (rp_move rfl rfl) ?_))
        (first | (refine AL.noV rfl rfl rfl rfl ?_) | (refine AL.noU rfl ⟨_, rfl, rfl⟩ rfl ?_) | (refine AL.rpy rfl rfl rfl (rp_gtrT rfl rfl rfl (by first | assumption | omega | (dsimp only; omega))) ?_) | (refine AL.rpy rfl rfl rfl (rp_gtrF rfl rfl rfl (by first | assumption | omega | (dsimp only; omega))) ?_) | (refine AL.rpy rfl rfl rfl (rp_gtr rfl rfl rfl) ?_))
        refine AL.rp rfl rfl (rp_pick rfl rfl rfl) ?_
        refine AL.nil ?_
        try simp only [thenS, S.put]
        refine AW.condT rfl ?_
        refine AW.seq ?_
        refine AW.region ?_
        refine AL.rp rfl rfl (rp_assign rfl rfl) ?_
        refine AL.rp rfl rfl (rp_assign rfl rfl) ?_
        refine AL.nil ?_
        try simp only [thenS, S.put]
        refine AW.ret ?_
        exact ⟨[_, _], ⟨rfl, rfl, trivial⟩, rfl, by simp [tupOf, V.pure, V.has, V.hasL]⟩
       ·have hbig : 25 < xa := by omega
        refine AW.seq ?_
        refine AW.region ?_
        (first | (refine AL.st rfl (st_next rfl rfl (by assumption) (by omega) rfl (by first | rfl | (simp [S.put, S.newObj, setL, V.cs, V.mpsL, V.mps, D.mps, D.mpsL, D.mpsR]; done)) (by first | rfl | (simp [S.put, S.newObj, setL, V.cs, V.mpsL, V.mps, D.mps, D.mpsL, D.mpsR]; done)) (by first | rfl | (simp [S.put]; done)) rfl) ?_; simp only [S.put, List.map_cons, List.map_nil, upI_p, upI_ref, upI_junk, upI_it]) | (refine AL.rd rfl rfl (rd_nextEnd rfl rfl (by omega)) ?_))
        refine AL.rp rfl rfl (rp_extract rfl rfl rfl) ?_
        refine AL.nil ?_
        try simp only [thenS, S.put, S.newObj, setL, V.cs, List.length_cons, List.length_nil, List.take_succ_cons, List.take_zero, List.drop_succ_cons, List.drop_zero, List.drop_nil, List.nil_append, List.cons_append, List.append_nil, Nat.zero_add, Nat.reduceAdd, List.map_cons, List.map_nil, List.set_cons_zero, List.set_cons_succ]
        refine AW.seq ?_
        refine AW.condT rfl ?_
        refine AW.skip ?_
        try simp only [thenS]
        refine AW.block ?_
        refine AW.seq ?_
        refine AW.region ?_
        refine AL.rp rfl rfl (rp_extract rfl rfl rfl) ?_
        refine AL.rp rfl rfl (rp_assign rfl rfl) ?_
        refine AL.nil ?_
        try simp only [thenS, S.put]
        refine AW.seq ?_
        refine AW.seq ?_
        refine AW.region ?_
        refine AL.rp rfl rfl (rp_move rfl rfl) ?_
        (first | (refine AL.rp rfl rfl (rp_eqlT rfl rfl rfl (by first | assumption | omega | (dsimp only; omega))) ?_) | (refine AL.rp rfl rfl (rp_eqlF rfl rfl rfl (by first | assumption | omega | (dsimp only; omega))) ?_) | (refine AL.rp rfl rfl (rp_eql rfl rfl rfl) ?_))
        refine AL.nil ?_
        try simp only [thenS, S.put]
        refine AW.condF rfl ?_
        refine AW.skip ?_
        try simp only [thenS]
        refine AW.seq ?_
        refine AW.region ?_
        refine AL.rp rfl rfl (rp_move rfl rfl) ?_
        try simp only [S.put, S.newObj, setL, V.cs, List.length_cons, List.length_nil, List.take_succ_cons, List.take_zero, List.drop_succ_cons, List.drop_zero, List.drop_nil, List.nil_append, List.cons_append, List.append_nil, Nat.zero_add, Nat.reduceAdd]
        refine AL.pc [1, 5, 6, 8, 29] (ts := [_, _, _, _, _]) (args := [_, _]) (post := ?pc16) ?hc16 rfl rfl rfl rfl rfl rfl rfl rfl rfl ?_
        case hc16 => (refine pc_fieldA 1 (b.toNat : Int) (by omega) _ _ <;> first | rfl | (simp [V.lowL, V.low]; done))
        rintro _ _ _ ⟨rfl, rfl, rfl⟩
        simp only [back, S.put, List.cons_append, List.nil_append, List.zip_cons_cons, List.zip_nil_left, List.drop_succ_cons, List.drop_zero, List.length_cons, List.length_nil, Nat.zero_add, Nat.reduceAdd]
        (first | (refine AL.rp rfl rfl (rp_nilCheck rfl rfl) ?_) | (refine AL.rp rfl rfl (rp_nilCheck_ad rfl rfl) ?_))
        (first | (refine AL.rd rfl rfl (rd_load_ref Tryd.underlying3 rfl rfl rfl rfl rfl rfl) ?_) | (refine AL.rd rfl rfl (rd_load_ad Tryd.underlying3 rfl rfl rfl rfl) ?_) | (refine AL.rd rfl rfl (rd_load_map Tryd.underlying3 rfl rfl rfl rfl rfl rfl (by assumption)) ?_) | (refine AL.rd rfl rfl (rd_load_flat Tryd.underlying3 rfl rfl rfl rfl rfl rfl (fun _ => rfl) (by assumption) rfl) ?_))
        refine AL.rp rfl rfl (rp_assign rfl rfl) ?_
        refine AL.nil ?_
        try simp only [thenS, S.put]
        refine AW.seq ?_
        refine AW.seq ?_
        refine AW.region ?_
        refine AL.rp rfl rfl (rp_move rfl rfl) ?_
        (first | (refine AL.rp rfl rfl (rp_lssT rfl rfl rfl (by first | assumption | omega | (dsimp only; omega))) ?_) | (refine AL.rp rfl rfl (rp_lssF rfl rfl rfl (by first | assumption | omega | (dsimp only; omega))) ?_) | (refine AL.rp rfl rfl (rp_lss rfl rfl rfl) ?_))
        refine AL.rp rfl rfl (rp_move rfl rfl) ?_
        (first | (refine AL.noV rfl rfl rfl rfl ?_) | (refine AL.noU rfl ⟨_, rfl, rfl⟩ rfl ?_) | (refine AL.rpy rfl rfl rfl (rp_move rfl rfl) ?_))
        (first | (refine AL.noV rfl rfl rfl rfl ?_) | (refine AL.noU rfl ⟨_, rfl, rfl⟩ rfl ?_) | (refine AL.rpy rfl rfl rfl (rp_gtrT rfl rfl rfl (by first | assumption | omega | (dsimp only; omega))) ?_) | (refine AL.rpy rfl rfl rfl (rp_gtrF rfl rfl rfl (by first | assumption | omega | (dsimp only; omega))) ?_) | (refine AL.rpy rfl rfl rfl (rp_gtr rfl rfl rfl) ?_))
        refine AL.rp rfl rfl (rp_pick rfl rfl rfl) ?_
        refine AL.nil ?_
        try simp only [thenS, S.put]
        refine AW.condT rfl ?_
        refine AW.seq ?_
        refine AW.region ?_
        refine AL.rp rfl rfl (rp_assign rfl rfl) ?_
        refine AL.rp rfl rfl (rp_assign rfl rfl) ?_
        refine AL.nil ?_
        try simp only [thenS, S.put]
        refine AW.ret ?_
        exact ⟨[_, _], ⟨rfl, rfl, trivial⟩, rfl, by simp [tupOf, V.pure, V.has, V.hasL]⟩
     ·have h98 : b.toNat = 98 := by omega
      have hfl : fldS ⟨k, xt, xa, xb, xn⟩ b.toNat = xb := by simp [fldS, h98]
      have hzr : zerS ⟨0, Rt, Ra, Rb, Rn⟩ b.toNat = ⟨0, Rt, Ra, 0, Rn⟩ := by simp [zerS, h98]
      by_cases hr : rgOk xb
      ·rw [proc_r h110 (by rw [hfl]; exact hr), hfl, hzr] at hI
       obtain ⟨r1, r2⟩ : 0 ≤ xb ∧ xb ≤ 25 := hr
       have hsu : (⟨#[UInt8.ofNat (97 + xb.toNat)]⟩ : ByteArray).size = 1 := rfl
       refine AW.seq ?_
       refine AW.region ?_
       (first | (refine AL.st rfl (st_next rfl rfl (by assumption) (by omega) rfl (by first | rfl | (simp [S.put, S.newObj, setL, V.cs, V.mpsL, V.mps, D.mps, D.mpsL, D.mpsR]; done)) (by first | rfl | (simp [S.put, S.newObj, setL, V.cs, V.mpsL, V.mps, D.mps, D.mpsL, D.mpsR]; done)) (by first | rfl | (simp [S.put]; done)) rfl) ?_; simp only [S.put, List.map_cons, List.map_nil, upI_p, upI_ref, upI_junk, upI_it]) | (refine AL.rd rfl rfl (rd_nextEnd rfl rfl (by omega)) ?_))
       refine AL.rp rfl rfl (rp_extract rfl rfl rfl) ?_
       refine AL.nil ?_
       try simp only [thenS, S.put, S.newObj, setL, V.cs, List.length_cons, List.length_nil, List.take_succ_cons, List.take_zero, List.drop_succ_cons, List.drop_zero, List.drop_nil, List.nil_append, List.cons_append, List.append_nil, Nat.zero_add, Nat.reduceAdd, List.map_cons, List.map_nil, List.set_cons_zero, List.set_cons_succ]
       refine AW.seq ?_
       refine AW.condT rfl ?_
       refine AW.skip ?_
       try simp only [thenS]
       refine AW.block ?_
       refine AW.seq ?_
       refine AW.region ?_
       refine AL.rp rfl rfl (rp_extract rfl rfl rfl) ?_
       refine AL.rp rfl rfl (rp_assign rfl rfl) ?_
       refine AL.nil ?_
       try simp only [thenS, S.put]
       refine AW.seq ?_
       refine AW.seq ?_
       refine AW.region ?_
       refine AL.rp rfl rfl (rp_move rfl rfl) ?_
       (first | (refine AL.rp rfl rfl (rp_eqlT rfl rfl rfl (by first | assumption | omega | (dsimp only; omega))) ?_) | (refine AL.rp rfl rfl (rp_eqlF rfl rfl rfl (by first | assumption | omega | (dsimp only; omega))) ?_) | (refine AL.rp rfl rfl (rp_eql rfl rfl rfl) ?_))
       refine AL.nil ?_
       try simp only [thenS, S.put]
       refine AW.condF rfl ?_
       refine AW.skip ?_
       try simp only [thenS]
       refine AW.seq ?_
       refine AW.region ?_
       refine AL.rp rfl rfl (rp_move rfl rfl) ?_
       try simp only [S.put, S.newObj, setL, V.cs, List.length_cons, List.length_nil, List.take_succ_cons, List.take_zero, List.drop_succ_cons, List.drop_zero, List.drop_nil, List.nil_append, List.cons_append, List.append_nil, Nat.zero_add, Nat.reduceAdd]
       refine AL.pc [1, 5, 6, 8, 29] (ts := [_, _, _, _, _]) (args := [_, _]) (post := ?pc17) ?hc17 rfl rfl rfl rfl rfl rfl rfl rfl rfl ?_
       case hc17 => (refine pc_fieldB 1 (b.toNat : Int) (by omega) _ _ <;> first | rfl | (simp [V.lowL, V.low]; done))
       rintro _ _ _ ⟨rfl, rfl, rfl⟩
       simp only [back, S.put, List.cons_append, List.nil_append, List.zip_cons_cons, List.zip_nil_left, List.drop_succ_cons, List.drop_zero, List.length_cons, List.length_nil, Nat.zero_add, Nat.reduceAdd]
       (first | (refine AL.rp rfl rfl (rp_nilCheck rfl rfl) ?_) | (refine AL.rp rfl rfl (rp_nilCheck_ad rfl rfl) ?_))
       (first | (refine AL.rd rfl rfl (rd_load_ref Tryd.underlying3 rfl rfl rfl rfl rfl rfl) ?_) | (refine AL.rd rfl rfl (rd_load_ad Tryd.underlying3 rfl rfl rfl rfl) ?_) | (refine AL.rd rfl rfl (rd_load_map Tryd.underlying3 rfl rfl rfl rfl rfl rfl (by assumption)) ?_) | (refine AL.rd rfl rfl (rd_load_flat Tryd.underlying3 rfl rfl rfl rfl rfl rfl (fun _ => rfl) (by assumption) rfl) ?_))
       refine AL.rp rfl rfl (rp_assign rfl rfl) ?_
       refine AL.nil ?_
       try simp only [thenS, S.put]
       refine AW.seq ?_
       refine AW.seq ?_
       refine AW.region ?_
       refine AL.rp rfl rfl (rp_move rfl rfl) ?_
       (first | (refine AL.rp rfl rfl (rp_lssT rfl rfl rfl (by first | assumption | omega | (dsimp only; omega))) ?_) | (refine AL.rp rfl rfl (rp_lssF rfl rfl rfl (by first | assumption | omega | (dsimp only; omega))) ?_) | (refine AL.rp rfl rfl (rp_lss rfl rfl rfl) ?_))
       refine AL.rp rfl rfl (rp_move rfl rfl) ?_
       (first | (refine AL.noV rfl rfl rfl rfl ?_) | (refine AL.noU rfl ⟨_, rfl, rfl⟩ rfl ?_) | (refine AL.rpy rfl rfl rfl (rp_move rfl rfl) ?_))
       (first | (refine AL.noV rfl rfl rfl rfl ?_) | (refine AL.noU rfl ⟨_, rfl, rfl⟩ rfl ?_) | (refine AL.rpy rfl rfl rfl (rp_gtrT rfl rfl rfl (by first | assumption | omega | (dsimp only; omega))) ?_) | (refine AL.rpy rfl rfl rfl (rp_gtrF rfl rfl rfl (by first | assumption | omega | (dsimp only; omega))) ?_) | (refine AL.rpy rfl rfl rfl (rp_gtr rfl rfl rfl) ?_))
       refine AL.rp rfl rfl (rp_pick rfl rfl rfl) ?_
       refine AL.nil ?_
       try simp only [thenS, S.put]
       refine AW.condF rfl ?_
       refine AW.skip ?_
       try simp only [thenS]
       refine AW.seq ?_
       refine AW.region ?_
       refine AL.rp rfl rfl (rp_move rfl rfl) ?_
       refine AL.rp rfl rfl (rp_move rfl rfl) ?_
       refine AL.rp rfl rfl (rp_add rfl rfl rfl (by first | omega | (dsimp only; omega))) ?_
       refine AL.rp rfl rfl (rp_conv32 Tryd.underlying3 Tryd.underlying21 rfl rfl (by omega)) ?_
       refine AL.rp rfl rfl (rp_runeStr (m := 97 + xb.toNat) Tryd.underlying21 Tryd.underlying9 rfl rfl (by first | rfl | omega) (by omega)) ?_
       refine AL.rp rfl rfl (rp_adds rfl rfl rfl (by first | assumption | omega | (simp only [ByteArray.size_append]; omega))) ?_
       refine AL.rp rfl rfl (rp_adds rfl rfl rfl (by first | assumption | omega | (simp only [ByteArray.size_append]; omega))) ?_
       refine AL.rp rfl rfl (rp_assign rfl rfl) ?_
       refine AL.nil ?_
       try simp only [thenS, S.put]
       refine AW.region ?_
       refine AL.rp rfl rfl (rp_move rfl rfl) ?_
       try simp only [S.put, S.newObj, setL, V.cs, List.length_cons, List.length_nil, List.take_succ_cons, List.take_zero, List.drop_succ_cons, List.drop_zero, List.drop_nil, List.nil_append, List.cons_append, List.append_nil, Nat.zero_add, Nat.reduceAdd]
       refine AL.pc [1, 5, 6, 29] (ts := [_, _, _, _]) (args := [_, _]) (post := ?pc18) ?hc18 rfl rfl rfl rfl rfl rfl rfl rfl rfl ?_
       case hc18 => (refine pc_fieldB 6 (b.toNat : Int) (by omega) _ _ <;> first | rfl | (simp [V.lowL, V.low]; done))
       rintro _ _ _ ⟨rfl, rfl, rfl⟩
       simp only [back, S.put, List.cons_append, List.nil_append, List.zip_cons_cons, List.zip_nil_left, List.drop_succ_cons, List.drop_zero, List.length_cons, List.length_nil, Nat.zero_add, Nat.reduceAdd]
       (first | (refine AL.rp rfl rfl (rp_nilCheck rfl rfl) ?_) | (refine AL.rp rfl rfl (rp_nilCheck_ad rfl rfl) ?_))
       (first | (refine AL.st rfl (st_store_map2 inf3 rfl rfl rfl rfl rfl rfl rfl rfl (by first | assumption | omega)) ?_) | (refine AL.st rfl (st_store inf3 rfl rfl rfl rfl rfl rfl rfl (by first | decide | (simp; done)) rfl) ?_))
       refine AL.nil ?_
       try simp only [thenS, S.put, S.newObj, setL, V.cs, List.length_cons, List.length_nil, List.take_succ_cons, List.take_zero, List.drop_succ_cons, List.drop_zero, List.drop_nil, List.nil_append, List.cons_append, List.append_nil, Nat.zero_add, Nat.reduceAdd, List.map_cons, List.map_nil, List.set_cons_zero, List.set_cons_succ]
       refine ⟨μ - 1, _, ?_, ⟨j + 1, L ++ (⟨#[32]⟩ ++ ⟨#[UInt8.ofNat (97 + xb.toNat)]⟩), ⟨0, Rt, Ra, 0, Rn⟩, by omega, rfl, by (simp only [ByteArray.size_append]; omega), hI, rfl⟩, by omega⟩
       exact (Less.of rfl (by repeat (first | exact trivial | refine ⟨⟨_, rfl, Wk.refl _⟩, ?_⟩ | refine ⟨⟨_, rfl, Wk.nil _ _⟩, ?_⟩ | refine ⟨⟨_, rfl, Wk.junk _⟩, ?_⟩)) (by repeat (first | exact trivial | refine ⟨rfl, ?_⟩)) rfl)
      ·rw [proc_rF h110 (by rw [hfl]; exact hr)] at hI
       rw [hI, prR_err (by decide)] at hspec
       simp only [Prod.mk.injEq] at hspec
       obtain ⟨rfl, rfl⟩ := hspec
       unfold rgOk at hr
       by_cases hneg : xb < 0
       ·skip
        refine AW.seq ?_
        refine AW.region ?_
        (first | (refine AL.st rfl (st_next rfl rfl (by assumption) (by omega) rfl (by first | rfl | (simp [S.put, S.newObj, setL, V.cs, V.mpsL, V.mps, D.mps, D.mpsL, D.mpsR]; done)) (by first | rfl | (simp [S.put, S.newObj, setL, V.cs, V.mpsL, V.mps, D.mps, D.mpsL, D.mpsR]; done)) (by first | rfl | (simp [S.put]; done)) rfl) ?_; simp only [S.put, List.map_cons, List.map_nil, upI_p, upI_ref, upI_junk, upI_it]) | (refine AL.rd rfl rfl (rd_nextEnd rfl rfl (by omega)) ?_))
        refine AL.rp rfl rfl (rp_extract rfl rfl rfl) ?_
        refine AL.nil ?_
        try simp only [thenS, S.put, S.newObj, setL, V.cs, List.length_cons, List.length_nil, List.take_succ_cons, List.take_zero, List.drop_succ_cons, List.drop_zero, List.drop_nil, List.nil_append, List.cons_append, List.append_nil, Nat.zero_add, Nat.reduceAdd, List.map_cons, List.map_nil, List.set_cons_zero, List.set_cons_succ]
        refine AW.seq ?_
        refine AW.condT rfl ?_
        refine AW.skip ?_
        try simp only [thenS]
        refine AW.block ?_
        refine AW.seq ?_
        refine AW.region ?_
        refine AL.rp rfl rfl (rp_extract rfl rfl rfl) ?_
        refine AL.rp rfl rfl (rp_assign rfl rfl) ?_
        refine AL.nil ?_
        try simp only [thenS, S.put]
        refine AW.seq ?_
        refine AW.seq ?_
        refine AW.region ?_
        refine AL.rp rfl rfl (rp_move rfl rfl) ?_
        (first | (refine AL.rp rfl rfl (rp_eqlT rfl rfl rfl (by first | assumption | omega | (dsimp only; omega))) ?_) | (refine AL.rp rfl rfl (rp_eqlF rfl rfl rfl (by first | assumption | omega | (dsimp only; omega))) ?_) | (refine AL.rp rfl rfl (rp_eql rfl rfl rfl) ?_))
        refine AL.nil ?_
        try simp only [thenS, S.put]
        refine AW.condF rfl ?_
        refine AW.skip ?_
        try simp only [thenS]
        refine AW.seq ?_
        refine AW.region ?_
        refine AL.rp rfl rfl (rp_move rfl rfl) ?_
        try simp only [S.put, S.newObj, setL, V.cs, List.length_cons, List.length_nil, List.take_succ_cons, List.take_zero, List.drop_succ_cons, List.drop_zero, List.drop_nil, List.nil_append, List.cons_append, List.append_nil, Nat.zero_add, Nat.reduceAdd]
        refine AL.pc [1, 5, 6, 8, 29] (ts := [_, _, _, _, _]) (args := [_, _]) (post := ?pc19) ?hc19 rfl rfl rfl rfl rfl rfl rfl rfl rfl ?_
        case hc19 => (refine pc_fieldB 1 (b.toNat : Int) (by omega) _ _ <;> first | rfl | (simp [V.lowL, V.low]; done))
        rintro _ _ _ ⟨rfl, rfl, rfl⟩
        simp only [back, S.put, List.cons_append, List.nil_append, List.zip_cons_cons, List.zip_nil_left, List.drop_succ_cons, List.drop_zero, List.length_cons, List.length_nil, Nat.zero_add, Nat.reduceAdd]
        (first | (refine AL.rp rfl rfl (rp_nilCheck rfl rfl) ?_) | (refine AL.rp rfl rfl (rp_nilCheck_ad rfl rfl) ?_))
        (first | (refine AL.rd rfl rfl (rd_load_ref Tryd.underlying3 rfl rfl rfl rfl rfl rfl) ?_) | (refine AL.rd rfl rfl (rd_load_ad Tryd.underlying3 rfl rfl rfl rfl) ?_) | (refine AL.rd rfl rfl (rd_load_map Tryd.underlying3 rfl rfl rfl rfl rfl rfl (by assumption)) ?_) | (refine AL.rd rfl rfl (rd_load_flat Tryd.underlying3 rfl rfl rfl rfl rfl rfl (fun _ => rfl) (by assumption) rfl) ?_))
        refine AL.rp rfl rfl (rp_assign rfl rfl) ?_
        refine AL.nil ?_
        try simp only [thenS, S.put]
        refine AW.seq ?_
        refine AW.seq ?_
        refine AW.region ?_
        refine AL.rp rfl rfl (rp_move rfl rfl) ?_
        (first | (refine AL.rp rfl rfl (rp_lssT rfl rfl rfl (by first | assumption | omega | (dsimp only; omega))) ?_) | (refine AL.rp rfl rfl (rp_lssF rfl rfl rfl (by first | assumption | omega | (dsimp only; omega))) ?_) | (refine AL.rp rfl rfl (rp_lss rfl rfl rfl) ?_))
        refine AL.rp rfl rfl (rp_move rfl rfl) ?_
        (first | (refine AL.noV rfl rfl rfl rfl ?_) | (refine AL.noU rfl ⟨_, rfl, rfl⟩ rfl ?_) | (refine AL.rpy rfl rfl rfl (rp_move rfl rfl) ?_))
        (first | (refine AL.noV rfl rfl rfl rfl ?_) | (refine AL.noU rfl ⟨_, rfl, rfl⟩ rfl ?_) | (refine AL.rpy rfl rfl rfl (rp_gtrT rfl rfl rfl (by first | assumption | omega | (dsimp only; omega))) ?_) | (refine AL.rpy rfl rfl rfl (rp_gtrF rfl rfl rfl (by first | assumption | omega | (dsimp only; omega))) ?_) | (refine AL.rpy rfl rfl rfl (rp_gtr rfl rfl rfl) ?_))
        refine AL.rp rfl rfl (rp_pick rfl rfl rfl) ?_
        refine AL.nil ?_
        try simp only [thenS, S.put]
        refine AW.condT rfl ?_
        refine AW.seq ?_
        refine AW.region ?_
        refine AL.rp rfl rfl (rp_assign rfl rfl) ?_
        refine AL.rp rfl rfl (rp_assign rfl rfl) ?_
        refine AL.nil ?_
        try simp only [thenS, S.put]
        refine AW.ret ?_
        exact ⟨[_, _], ⟨rfl, rfl, trivial⟩, rfl, by simp [tupOf, V.pure, V.has, V.hasL]⟩
       ·have hbig : 25 < xb := by omega
        refine AW.seq ?_
        refine AW.region ?_
        (first | (refine AL.st rfl (st_next rfl rfl (by assumption) (by omega) rfl (by first | rfl | (simp [S.put, S.newObj, setL, V.cs, V.mpsL, V.mps, D.mps, D.mpsL, D.mpsR]; done)) (by first | rfl | (simp [S.put, S.newObj, setL, V.cs, V.mpsL, V.mps, D.mps, D.mpsL, D.mpsR]; done)) (by first | rfl | (simp [S.put]; done)) rfl) ?_; simp only [S.put, List.map_cons, List.map_nil, upI_p, upI_ref, upI_junk, upI_it]) | (refine AL.rd rfl rfl (rd_nextEnd rfl rfl (by omega)) ?_))
        refine AL.rp rfl rfl (rp_extract rfl rfl rfl) ?_
        refine AL.nil ?_
        try simp only [thenS, S.put, S.newObj, setL, V.cs, List.length_cons, List.length_nil, List.take_succ_cons, List.take_zero, List.drop_succ_cons, List.drop_zero, List.drop_nil, List.nil_append, List.cons_append, List.append_nil, Nat.zero_add, Nat.reduceAdd, List.map_cons, List.map_nil, List.set_cons_zero, List.set_cons_succ]
        refine AW.seq ?_
        refine AW.condT rfl ?_
        refine AW.skip ?_
        try simp only [thenS]
        refine AW.block ?_
        refine AW.seq ?_
        refine AW.region ?_
        refine AL.rp rfl rfl (rp_extract rfl rfl rfl) ?_
        refine AL.rp rfl rfl (rp_assign rfl rfl) ?_
        refine AL.nil ?_
        try simp only [thenS, S.put]
        refine AW.seq ?_
        refine AW.seq ?_
        refine AW.region ?_
        refine AL.rp rfl rfl (rp_move rfl rfl) ?_
        (first | (refine AL.rp rfl rfl (rp_eqlT rfl rfl rfl (by first | assumption | omega | (dsimp only; omega))) ?_) | (refine AL.rp rfl rfl (rp_eqlF rfl rfl rfl (by first | assumption | omega | (dsimp only; omega))) ?_) | (refine AL.rp rfl rfl (rp_eql rfl rfl rfl) ?_))
        refine AL.nil ?_
        try simp only [thenS, S.put]
        refine AW.condF rfl ?_
        refine AW.skip ?_
        try simp only [thenS]
        refine AW.seq ?_
        refine AW.region ?_
        refine AL.rp rfl rfl (rp_move rfl rfl) ?_
        try simp only [S.put, S.newObj, setL, V.cs, List.length_cons, List.length_nil, List.take_succ_cons, List.take_zero, List.drop_succ_cons, List.drop_zero, List.drop_nil, List.nil_append, List.cons_append, List.append_nil, Nat.zero_add, Nat.reduceAdd]
        refine AL.pc [1, 5, 6, 8, 29] (ts := [_, _, _, _, _]) (args := [_, _]) (post := ?pc20) ?hc20 rfl rfl rfl rfl rfl rfl rfl rfl rfl ?_
        case hc20 => (refine pc_fieldB 1 (b.toNat : Int) (by omega) _ _ <;> first | rfl | (simp [V.lowL, V.low]; done))
        rintro _ _ _ ⟨rfl, rfl, rfl⟩
        simp only [back, S.put, List.cons_append, List.nil_append, List.zip_cons_cons, List.zip_nil_left, List.drop_succ_cons, List.drop_zero, List.length_cons, List.length_nil, Nat.zero_add, Nat.reduceAdd]
        (first | (refine AL.rp rfl rfl (rp_nilCheck rfl rfl) ?_) | (refine AL.rp rfl rfl (rp_nilCheck_ad rfl rfl) ?_))
        (first | (refine AL.rd rfl rfl (rd_load_ref Tryd.underlying3 rfl rfl rfl rfl rfl rfl) ?_) | (refine AL.rd rfl rfl (rd_load_ad Tryd.underlying3 rfl rfl rfl rfl) ?_) | (refine AL.rd rfl rfl (rd_load_map Tryd.underlying3 rfl rfl rfl rfl rfl rfl (by assumption)) ?_) | (refine AL.rd rfl rfl (rd_load_flat Tryd.underlying3 rfl rfl rfl rfl rfl rfl (fun _ => rfl) (by assumption) rfl) ?_))
        refine AL.rp rfl rfl (rp_assign rfl rfl) ?_
        refine AL.nil ?_
        try simp only [thenS, S.put]
        refine AW.seq ?_
        refine AW.seq ?_
        refine AW.region ?_
        refine AL.rp rfl rfl (rp_move rfl rfl) ?_
        (first | (refine AL.rp rfl rfl (rp_lssT rfl rfl rfl (by first | assumption | omega | (dsimp only; omega))) ?_) | (refine AL.rp rfl rfl (rp_lssF rfl rfl rfl (by first | assumption | omega | (dsimp only; omega))) ?_) | (refine AL.rp rfl rfl (rp_lss rfl rfl rfl) ?_))
        refine AL.rp rfl rfl (rp_move rfl rfl) ?_
        (first | (refine AL.noV rfl rfl rfl rfl ?_) | (refine AL.noU rfl ⟨_, rfl, rfl⟩ rfl ?_) | (refine AL.rpy rfl rfl rfl (rp_move rfl rfl) ?_))
        (first | (refine AL.noV rfl rfl rfl rfl ?_) | (refine AL.noU rfl ⟨_, rfl, rfl⟩ rfl ?_) | (refine AL.rpy rfl rfl rfl (rp_gtrT rfl rfl rfl (by first | assumption | omega | (dsimp only; omega))) ?_) | (refine AL.rpy rfl rfl rfl (rp_gtrF rfl rfl rfl (by first | assumption | omega | (dsimp only; omega))) ?_) | (refine AL.rpy rfl rfl rfl (rp_gtr rfl rfl rfl) ?_))
        refine AL.rp rfl rfl (rp_pick rfl rfl rfl) ?_
        refine AL.nil ?_
        try simp only [thenS, S.put]
        refine AW.condT rfl ?_
        refine AW.seq ?_
        refine AW.region ?_
        refine AL.rp rfl rfl (rp_assign rfl rfl) ?_
        refine AL.rp rfl rfl (rp_assign rfl rfl) ?_
        refine AL.nil ?_
        try simp only [thenS, S.put]
        refine AW.ret ?_
        exact ⟨[_, _], ⟨rfl, rfl, trivial⟩, rfl, by simp [tupOf, V.pure, V.has, V.hasL]⟩
  ·have hjl : j = len := by omega
   rw [List.drop_eq_nil_of_le (by omega), proc] at hI
   rw [hI] at hspec
   by_cases hz : (⟨0, Rt, Ra, Rb, Rn⟩ : Stp) = ⟨0, 0, 0, 0, ⟨#[]⟩⟩
   ·rw [prR_ok hz] at hspec
    simp only [Prod.mk.injEq] at hspec
    obtain ⟨rfl, rfl⟩ := hspec
    refine AW.seq ?_
    refine AW.region ?_
    (first | (refine AL.st rfl (st_next rfl rfl (by assumption) (by omega) rfl (by first | rfl | (simp [S.put, S.newObj, setL, V.cs, V.mpsL, V.mps, D.mps, D.mpsL, D.mpsR]; done)) (by first | rfl | (simp [S.put, S.newObj, setL, V.cs, V.mpsL, V.mps, D.mps, D.mpsL, D.mpsR]; done)) (by first | rfl | (simp [S.put]; done)) rfl) ?_; simp only [S.put, List.map_cons, List.map_nil, upI_p, upI_ref, upI_junk, upI_it]) | (refine AL.rd rfl rfl (rd_nextEnd rfl rfl (by omega)) ?_))
    refine AL.rp rfl rfl (rp_extract rfl rfl rfl) ?_
    refine AL.nil ?_
    try simp only [thenS, S.put, S.newObj, setL, V.cs, List.length_cons, List.length_nil, List.take_succ_cons, List.take_zero, List.drop_succ_cons, List.drop_zero, List.drop_nil, List.nil_append, List.cons_append, List.append_nil, Nat.zero_add, Nat.reduceAdd, List.map_cons, List.map_nil, List.set_cons_zero, List.set_cons_succ]
    refine AW.seq ?_
    refine AW.condF rfl ?_
    refine AW.exit ?_
    try simp only [thenS, inBlockS, ↓reduceIte, Nat.reduceEqDiff]
    refine AW.seq ?_
    refine AW.seq ?_
    refine AW.region ?_
    (first | (refine AL.rd rfl rfl (rd_loads_ref Tryd.underlying60 rfl inf60 rfl rfl rfl rfl rfl rfl) ?_) | (refine AL.rd rfl rfl (rd_loads_ad Tryd.underlying60 rfl inf60 rfl rfl rfl rfl) ?_))
    refine AL.rp rfl rfl (rp_build (vs := []) (zs := [.d (.p (.int .i64 0)), .d (.p (.int .i64 0)), .d (.p (.int .i64 0)), .d (.p (.int .i64 0)), .d (.p (.string ⟨#[]⟩))]) pl60 inf60 rfl rfl rfl rfl) ?_
    (first | (refine AL.rp rfl rfl (cmp_neq_60F rfl rfl rfl rfl (by first | assumption | rfl)) ?_) | (refine AL.rp rfl rfl (cmp_neq_60T rfl rfl rfl rfl (by first | assumption | rfl)) ?_))
    refine AL.nil ?_
    try simp only [thenS, S.put]
    refine AW.condF rfl ?_
    refine AW.skip ?_
    try simp only [thenS]
    refine AW.seq ?_
    refine AW.region ?_
    refine AL.rp rfl rfl (rp_move rfl rfl) ?_
    refine AL.rp rfl rfl (rp_adds rfl rfl rfl (by first | assumption | omega | (simp only [ByteArray.size_append]; omega))) ?_
    refine AL.rp rfl rfl (rp_assign rfl rfl) ?_
    refine AL.rp rfl rfl (rp_assign rfl rfl) ?_
    refine AL.nil ?_
    try simp only [thenS, S.put]
    refine AW.ret ?_
    exact ⟨[_, _], ⟨rfl, rfl, trivial⟩, rfl, by simp [tupOf, V.pure, V.has, V.hasL]⟩
   ·rw [prR_form hz] at hspec
    simp only [Prod.mk.injEq] at hspec
    obtain ⟨rfl, rfl⟩ := hspec
    refine AW.seq ?_
    refine AW.region ?_
    (first | (refine AL.st rfl (st_next rfl rfl (by assumption) (by omega) rfl (by first | rfl | (simp [S.put, S.newObj, setL, V.cs, V.mpsL, V.mps, D.mps, D.mpsL, D.mpsR]; done)) (by first | rfl | (simp [S.put, S.newObj, setL, V.cs, V.mpsL, V.mps, D.mps, D.mpsL, D.mpsR]; done)) (by first | rfl | (simp [S.put]; done)) rfl) ?_; simp only [S.put, List.map_cons, List.map_nil, upI_p, upI_ref, upI_junk, upI_it]) | (refine AL.rd rfl rfl (rd_nextEnd rfl rfl (by omega)) ?_))
    refine AL.rp rfl rfl (rp_extract rfl rfl rfl) ?_
    refine AL.nil ?_
    try simp only [thenS, S.put, S.newObj, setL, V.cs, List.length_cons, List.length_nil, List.take_succ_cons, List.take_zero, List.drop_succ_cons, List.drop_zero, List.drop_nil, List.nil_append, List.cons_append, List.append_nil, Nat.zero_add, Nat.reduceAdd, List.map_cons, List.map_nil, List.set_cons_zero, List.set_cons_succ]
    refine AW.seq ?_
    refine AW.condF rfl ?_
    refine AW.exit ?_
    try simp only [thenS, inBlockS, ↓reduceIte, Nat.reduceEqDiff]
    refine AW.seq ?_
    refine AW.seq ?_
    refine AW.region ?_
    (first | (refine AL.rd rfl rfl (rd_loads_ref Tryd.underlying60 rfl inf60 rfl rfl rfl rfl rfl rfl) ?_) | (refine AL.rd rfl rfl (rd_loads_ad Tryd.underlying60 rfl inf60 rfl rfl rfl rfl) ?_))
    refine AL.rp rfl rfl (rp_build (vs := []) (zs := [.d (.p (.int .i64 0)), .d (.p (.int .i64 0)), .d (.p (.int .i64 0)), .d (.p (.int .i64 0)), .d (.p (.string ⟨#[]⟩))]) pl60 inf60 rfl rfl rfl rfl) ?_
    (first | (refine AL.rp rfl rfl (cmp_neq_60F rfl rfl rfl rfl (by first | assumption | rfl)) ?_) | (refine AL.rp rfl rfl (cmp_neq_60T rfl rfl rfl rfl (by first | assumption | rfl)) ?_))
    refine AL.nil ?_
    try simp only [thenS, S.put]
    refine AW.condT rfl ?_
    refine AW.seq ?_
    refine AW.region ?_
    refine AL.rp rfl rfl (rp_assign rfl rfl) ?_
    refine AL.rp rfl rfl (rp_assign rfl rfl) ?_
    refine AL.nil ?_
    try simp only [thenS, S.put]
    refine AW.ret ?_
    exact ⟨[_, _], ⟨rfl, rfl, trivial⟩, rfl, by simp [tupOf, V.pure, V.has, V.hasL]⟩
 ·have hS : stS x = ⟨#[]⟩ := by unfold stS; rw [stE_kind hk]; rfl
  rw [stE_kind hk, hS]
  obtain ⟨xk, xt, xa, xb, xn⟩ := x
  simp only at hk
  simp only [stpD, List.map_cons, List.map_nil]
  by_cases hneg : xk < 1
  ·refine FnP.intro (n := 70) ⟨Tryd.func26, rfl, rfl, rfl, rfl⟩ (by simp [V.pure, V.has, V.hasL]) (by simp) fun w0 out hpre => ?_
   refine AW.seq ?_
   refine AW.region ?_
   refine AL.sm rfl (sm_box 1 rfl rfl rfl (by first | rfl | simp [S.clean, S.put, S.newObj, S.forget, V.has, V.hasL, junkIf, setL, V.cs, hasL_i, hasL_d, hasL_b, hasL_s, hasL_n, hasL_rep, hasL_flat, hasL_append, -List.map_set]) rfl) ?_
   refine AL.rp rfl rfl (rp_assign rfl rfl) ?_
   refine AL.rp rfl rfl (rp_assign rfl rfl) ?_
   refine AL.nil ?_
   try simp only [thenS, S.put, S.newObj, setL, V.cs, List.length_cons, List.length_nil, List.take_succ_cons, List.take_zero, List.drop_succ_cons, List.drop_zero, List.drop_nil, List.nil_append, List.cons_append, List.append_nil, Nat.zero_add, Nat.reduceAdd, List.map_cons, List.map_nil, List.set_cons_zero, List.set_cons_succ, enum]
   refine AW.seq ?_
   refine AW.seq ?_
   refine AW.region ?_
   (first | (refine AL.rp rfl rfl (rp_field_ref Tryd.underlying60 rfl rfl rfl inf3 (by decide) rfl) ?_) | (refine AL.rp rfl rfl (rp_field_ad Tryd.underlying60 rfl rfl rfl inf3 (by decide) rfl) ?_))
   (first | (refine AL.rd rfl rfl (rd_load_ref Tryd.underlying3 rfl rfl rfl rfl rfl rfl) ?_) | (refine AL.rd rfl rfl (rd_load_ad Tryd.underlying3 rfl rfl rfl rfl) ?_) | (refine AL.rd rfl rfl (rd_load_map Tryd.underlying3 rfl rfl rfl rfl rfl rfl (by assumption)) ?_) | (refine AL.rd rfl rfl (rd_load_flat Tryd.underlying3 rfl rfl rfl rfl rfl rfl (fun _ => rfl) (by assumption) rfl) ?_))
   (first | (refine AL.rp rfl rfl (rp_lssT rfl rfl rfl (by first | assumption | omega | (dsimp only; omega))) ?_) | (refine AL.rp rfl rfl (rp_lssF rfl rfl rfl (by first | assumption | omega | (dsimp only; omega))) ?_) | (refine AL.rp rfl rfl (rp_lss rfl rfl rfl) ?_))
   refine AL.rp rfl rfl (rp_move rfl rfl) ?_
   (first | (refine AL.noV rfl rfl rfl rfl ?_) | (refine AL.noU rfl ⟨_, rfl, rfl⟩ rfl ?_) | (refine AL.rpy rfl rfl rfl (rp_field_ref Tryd.underlying60 rfl rfl rfl inf3 (by decide) rfl) ?_) | (refine AL.rpy rfl rfl rfl (rp_field_ad Tryd.underlying60 rfl rfl rfl inf3 (by decide) rfl) ?_))
   (first | (refine AL.noV rfl rfl rfl rfl ?_) | (refine AL.noU rfl ⟨_, rfl, rfl⟩ rfl ?_) | (refine AL.rdy rfl rfl rfl (rd_load_ref Tryd.underlying3 rfl rfl rfl rfl rfl rfl) ?_) | (refine AL.rdy rfl rfl rfl (rd_load_ad Tryd.underlying3 rfl rfl rfl rfl) ?_) | (refine AL.rdy rfl rfl rfl (rd_load_map Tryd.underlying3 rfl rfl rfl rfl rfl rfl (by assumption)) ?_) | (refine AL.rdy rfl rfl rfl (rd_load_flat Tryd.underlying3 rfl rfl rfl rfl rfl rfl (fun _ => rfl) (by assumption) rfl) ?_))
   (first | (refine AL.noV rfl rfl rfl rfl ?_) | (refine AL.noU rfl ⟨_, rfl, rfl⟩ rfl ?_) | (refine AL.rpy rfl rfl rfl (rp_gtrT rfl rfl rfl (by first | assumption | omega | (dsimp only; omega))) ?_) | (refine AL.rpy rfl rfl rfl (rp_gtrF rfl rfl rfl (by first | assumption | omega | (dsimp only; omega))) ?_) | (refine AL.rpy rfl rfl rfl (rp_gtr rfl rfl rfl) ?_))
   refine AL.rp rfl rfl (rp_pick rfl rfl rfl) ?_
   refine AL.nil ?_
   try simp only [thenS, S.put]
   refine AW.condT rfl ?_
   refine AW.seq ?_
   refine AW.region ?_
   refine AL.rp rfl rfl (rp_assign rfl rfl) ?_
   refine AL.rp rfl rfl (rp_assign rfl rfl) ?_
   refine AL.nil ?_
   try simp only [thenS, S.put]
   refine AW.ret ?_
   exact ⟨[_, _], ⟨rfl, rfl, trivial⟩, rfl, by simp [tupOf, V.pure, V.has, V.hasL]⟩
  ·have hbig : 15 < xk := by omega
   refine FnP.intro (n := 70) ⟨Tryd.func26, rfl, rfl, rfl, rfl⟩ (by simp [V.pure, V.has, V.hasL]) (by simp) fun w0 out hpre => ?_
   refine AW.seq ?_
   refine AW.region ?_
   refine AL.sm rfl (sm_box 1 rfl rfl rfl (by first | rfl | simp [S.clean, S.put, S.newObj, S.forget, V.has, V.hasL, junkIf, setL, V.cs, hasL_i, hasL_d, hasL_b, hasL_s, hasL_n, hasL_rep, hasL_flat, hasL_append, -List.map_set]) rfl) ?_
   refine AL.rp rfl rfl (rp_assign rfl rfl) ?_
   refine AL.rp rfl rfl (rp_assign rfl rfl) ?_
   refine AL.nil ?_
   try simp only [thenS, S.put, S.newObj, setL, V.cs, List.length_cons, List.length_nil, List.take_succ_cons, List.take_zero, List.drop_succ_cons, List.drop_zero, List.drop_nil, List.nil_append, List.cons_append, List.append_nil, Nat.zero_add, Nat.reduceAdd, List.map_cons, List.map_nil, List.set_cons_zero, List.set_cons_succ, enum]
   refine AW.seq ?_
   refine AW.seq ?_
   refine AW.region ?_
   (first | (refine AL.rp rfl rfl (rp_field_ref Tryd.underlying60 rfl rfl rfl inf3 (by decide) rfl) ?_) | (refine AL.rp rfl rfl (rp_field_ad Tryd.underlying60 rfl rfl rfl inf3 (by decide) rfl) ?_))
   (first | (refine AL.rd rfl rfl (rd_load_ref Tryd.underlying3 rfl rfl rfl rfl rfl rfl) ?_) | (refine AL.rd rfl rfl (rd_load_ad Tryd.underlying3 rfl rfl rfl rfl) ?_) | (refine AL.rd rfl rfl (rd_load_map Tryd.underlying3 rfl rfl rfl rfl rfl rfl (by assumption)) ?_) | (refine AL.rd rfl rfl (rd_load_flat Tryd.underlying3 rfl rfl rfl rfl rfl rfl (fun _ => rfl) (by assumption) rfl) ?_))
   (first | (refine AL.rp rfl rfl (rp_lssT rfl rfl rfl (by first | assumption | omega | (dsimp only; omega))) ?_) | (refine AL.rp rfl rfl (rp_lssF rfl rfl rfl (by first | assumption | omega | (dsimp only; omega))) ?_) | (refine AL.rp rfl rfl (rp_lss rfl rfl rfl) ?_))
   refine AL.rp rfl rfl (rp_move rfl rfl) ?_
   (first | (refine AL.noV rfl rfl rfl rfl ?_) | (refine AL.noU rfl ⟨_, rfl, rfl⟩ rfl ?_) | (refine AL.rpy rfl rfl rfl (rp_field_ref Tryd.underlying60 rfl rfl rfl inf3 (by decide) rfl) ?_) | (refine AL.rpy rfl rfl rfl (rp_field_ad Tryd.underlying60 rfl rfl rfl inf3 (by decide) rfl) ?_))
   (first | (refine AL.noV rfl rfl rfl rfl ?_) | (refine AL.noU rfl ⟨_, rfl, rfl⟩ rfl ?_) | (refine AL.rdy rfl rfl rfl (rd_load_ref Tryd.underlying3 rfl rfl rfl rfl rfl rfl) ?_) | (refine AL.rdy rfl rfl rfl (rd_load_ad Tryd.underlying3 rfl rfl rfl rfl) ?_) | (refine AL.rdy rfl rfl rfl (rd_load_map Tryd.underlying3 rfl rfl rfl rfl rfl rfl (by assumption)) ?_) | (refine AL.rdy rfl rfl rfl (rd_load_flat Tryd.underlying3 rfl rfl rfl rfl rfl rfl (fun _ => rfl) (by assumption) rfl) ?_))
   (first | (refine AL.noV rfl rfl rfl rfl ?_) | (refine AL.noU rfl ⟨_, rfl, rfl⟩ rfl ?_) | (refine AL.rpy rfl rfl rfl (rp_gtrT rfl rfl rfl (by first | assumption | omega | (dsimp only; omega))) ?_) | (refine AL.rpy rfl rfl rfl (rp_gtrF rfl rfl rfl (by first | assumption | omega | (dsimp only; omega))) ?_) | (refine AL.rpy rfl rfl rfl (rp_gtr rfl rfl rfl) ?_))
   refine AL.rp rfl rfl (rp_pick rfl rfl rfl) ?_
   refine AL.nil ?_
   try simp only [thenS, S.put]
   refine AW.condT rfl ?_
   refine AW.seq ?_
   refine AW.region ?_
   refine AL.rp rfl rfl (rp_assign rfl rfl) ?_
   refine AL.rp rfl rfl (rp_assign rfl rfl) ?_
   refine AL.nil ?_
   try simp only [thenS, S.put]
   refine AW.ret ?_
   exact ⟨[_, _], ⟨rfl, rfl, trivial⟩, rfl, by simp [tupOf, V.pure, V.has, V.hasL]⟩
end Go.Proofs.YtlgnjehfojogmaaDoor
namespace Go.Proofs.YtlgnjehfojogmaaDoor
open Go.RowKit
set_option linter.unusedSimpArgs false
set_option linter.unusedVariables false

/-- The blocks of the loop's own bookkeeping. -/
def lpd : Obj → Bool
  | .loop _ => true
  | .deferred _ => true
  | _ => false
mutual
/-- Does a value speak of such a block? -/
def V.bks : V → Bool
  | .blk _ _ _ => true
  | .ifc _ v => V.bks v
  | .agg l => V.bksL l
  | .tup l => V.bksL l
  | .fn _ l => V.bksL l
  | _ => false
def V.bksL : List V → Bool
  | [] => false
  | v :: l => V.bks v || V.bksL l
end
theorem V.bksL_false {l : List V} : V.bksL l = false ↔ ∀ d ∈ l, V.bks d = false := by
  induction l with
  | nil => simp [V.bksL]
  | cons x l ih => simp [V.bksL, ih]
section
variable {c : Cx} {s : S} {o : Oper} {g : Nat → Nat × Nat} {a : Act} {w : World} {Q Q' : Exit → S → Prop}
theorem bk_cell {w w' : World} (hk : ∀ (b : Nat) (ob : Obj), w.heap[b]? = some ob → lpd ob = false → w'.heap[b]? = some ob) (b o : Nat) (u : Value) (h : w.cell? ⟨b, o, none⟩ = some u) : w'.cell? ⟨b, o, none⟩ = some u := by
  have h0 := h
  unfold World.cell? at h
  cases hb : w.heap[b]? with
  | none => simp [hb] at h
  | some ob =>
    refine (World.cell?_of_block (w := w) (a := ⟨b, o, none⟩) ((hk b ob hb ?_).trans hb.symm)).trans h0
    cases ob <;> first | rfl | simp [hb] at h
theorem DRep.nobk {w w' : World} {q : Nat → Prop} {x : D} {v : Value} (h : DRep w q x v) (hsz : w.heap.size ≤ w'.heap.size) (hk : ∀ (b : Nat) (ob : Obj), w.heap[b]? = some ob → lpd ob = false → w'.heap[b]? = some ob) : DRep w' q x v := by
  have hc := bk_cell hk
  induction h with
  | p x => exact .p x
  | sl sz bt rows a cap b o f hcp ha hl h1 hr ih =>
    refine .sl sz bt rows a cap b o f hcp (fun hne => ?_) hl (fun i j row u h2 h3 => hc _ _ _ (h1 i j row u h2 h3)) ih
    obtain ⟨e1, e2, e3⟩ := ha hne
    exact ⟨e1, e2, Nat.lt_of_lt_of_le e3 hsz⟩
  | mp l b hb hm => exact .mp l b ⟨hb.1, Nat.lt_of_lt_of_le hb.2 hsz⟩ (hk _ _ hm rfl)
  | mm l b bs hb hl hqs hm hi => exact .mm l b bs ⟨hb.1, Nat.lt_of_lt_of_le hb.2 hsz⟩ hl (fun k hk' => ⟨(hqs k hk').1, Nat.lt_of_lt_of_le (hqs k hk').2 hsz⟩) (hk _ _ hm rfl) fun j x k h1 h2 => hk _ _ (hi j x k h1 h2) rfl
theorem VRep.nobk {w w' : World} {q : Nat → Prop} {g : Nat → Nat × Nat} {x : V} {v : Value} (h : VRep w q g x v) (hsz : w.heap.size ≤ w'.heap.size) (hk : ∀ (b : Nat) (ob : Obj), w.heap[b]? = some ob → lpd ob = false → w'.heap[b]? = some ob) : x.bks = false → VRep w' q g x v := by
  have hc := bk_cell hk
  induction h with
  | d x v h => exact fun _ => .d x v (h.nobk hsz hk)
  | ad row b o f hb h1 hr => exact fun _ => .ad row b o f ⟨hb.1, Nat.lt_of_lt_of_le hb.2 hsz⟩ (fun j u hu => hc _ _ _ (h1 j u hu)) (fun j u hu => (hr j u hu).nobk hsz hk)
  | ref r o => exact fun _ => .ref r o
  | own r sz n hn hcap => exact fun _ => .own r sz n hn hcap
  | ownNil r sz => exact fun _ => .ownNil r sz
  | que r sz o n a cap hn hcap h => exact fun _ => .que r sz o n a cap hn hcap h
  | agg l cs hlen h ih => exact fun hm => .agg l cs hlen fun j u c h1 h2 => ih j u c h1 h2 (V.bksL_false.1 hm u (List.mem_of_getElem? h1))
  | tup l cs hlen h ih => exact fun hm => .tup l cs hlen fun j u c h1 h2 => ih j u c h1 h2 (V.bksL_false.1 hm u (List.mem_of_getElem? h1))
  | fn f l cs hlen h ih => exact fun hm => .fn f l cs hlen fun j u c h1 h2 => ih j u c h1 h2 (V.bksL_false.1 hm u (List.mem_of_getElem? h1))
  | mp r N l hN hm => exact fun _ => .mp r N l hN (hk _ _ hm rfl)
  | mq r N l vs hN hl hll hr hm => exact fun _ => .mq r N l vs hN hl hll (fun j x y i u z h1 h2 h3 h4 => (hr j x y i u z h1 h2 h3 h4).nobk hsz hk) (hk _ _ hm rfl)
  | ifc t v x h ih => exact fun hm => .ifc t v x (ih (by simpa [V.bks] using hm))
  | mp2 x r r' N l l' hN hN' hne hm hm' => exact fun _ => .mp2 x r r' N l l' hN hN' hne (hk _ _ hm rfl) (hk _ _ hm' rfl)
  | it r N s pos hN hm => exact fun _ => .it r N s pos hN (hk _ _ hm rfl)
  | mit r rm N l seen hN hm hmm => exact fun _ => .mit r rm N l seen hN (hk _ _ hm rfl) (hk _ _ hmm rfl)
  | mm r N l bs hN hl hbs hnd hm hi => exact fun _ => .mm r N l bs hN hl hbs hnd (hk _ _ hm rfl) fun j x k h1 h2 => hk _ _ (hi j x k h1 h2) rfl
  | blk => exact fun h => by simp [V.bks] at h
  | junk v => exact fun _ => .junk v

/-- What may be kept beside block b. -/
def bkOk (b : Nat) (v : V) : Prop := v.bks = false ∨ ∃ b' N ob, v = .blk b' N ob ∧ b' ≠ b
/-- Nothing but what is kept speaks of a block of the bookkeeping, and that of others than b. -/
structure NoBk (b : Nat) (T : List (Nat × V)) (H : List (Nat × Row)) (K : List V) : Prop where
  T : T.all (fun x => !x.2.bks) = true
  H : H.all (fun x => !V.bksL x.2.cells) = true
  K : ∀ v ∈ K, bkOk b v

theorem Sim.setBlk (hs : Sim c g s a w) {b : Nat} {ob ob' : Obj} (hb : w.heap[b]? = some ob) (hl : lpd ob = true) (hN : c.w0.heap.size ≤ b) (h : NoBk b s.T s.H s.K) : Sim c g s a (w.putObj b ob') := by
  have hlt : b < w.heap.size := (Array.getElem?_eq_some_iff.1 hb).1
  obtain ⟨w', hw'⟩ : ∃ w', w' = w.putObj b ob' := ⟨_, rfl⟩
  have hsz : w'.heap.size = w.heap.size := by rw [hw']; simp
  have hoth : ∀ b', b' ≠ b → w'.heap[b']? = w.heap[b']? := fun b' hne => by rw [hw']; exact World.putObj_heap_other hne
  have hk : ∀ (b' : Nat) (ob1 : Obj), w.heap[b']? = some ob1 → lpd ob1 = false → w'.heap[b']? = some ob1 := fun b' ob1 h1 h2 => (hoth b' fun e => by
    subst e
    rw [hb] at h1
    simp only [Option.some.injEq] at h1
    subst h1
    rw [hl] at h2
    cases h2).trans h1
  have hm : ∀ {v x}, v.bks = false → VRep w (qt c s.H g) g v x → VRep w' (qt c s.H g) g v x := fun hv h => h.nobk (by omega) hk hv
  rw [← hw']
  refine ⟨hs.size, hs.defers, ?_, hs.nul, ?_, ?_, hs.inj, hs.base, hs.low, ?_⟩
  · intro i v hv
    obtain ⟨x, h1, h2⟩ := hs.tmp i v hv
    exact ⟨x, h1, hm (by simpa using List.all_eq_true.1 h.T _ (fnd_mem hv)) h2⟩
  · intro k row hr hn
    obtain ⟨arr, h1, h2, h3⟩ := hs.obj k row hr hn
    refine ⟨arr, hk _ _ h1 rfl, h2, fun j v hv => ?_⟩
    obtain ⟨x, h4, h5⟩ := h3 j v hv
    exact ⟨x, h4, hm (V.bksL_false.1 (by simpa using List.all_eq_true.1 h.H _ (fnd_mem hr)) v (List.mem_of_getElem? hv)) h5⟩
  · intro j v x h1 h2
    have h3 := hs.keep j v x h1 h2
    rcases h.K v (List.mem_of_getElem? h1) with h4 | ⟨b', N, ob2, rfl, h4⟩
    · exact hm h4 h3
    · cases h3 with
      | blk _ _ _ _ h5 h6 h7 => exact .blk _ _ _ _ h5 h6 ((hoth _ h4).trans h7)
  · refine hs.below.trans ⟨by rw [hw']; rfl, by rw [hw']; rfl, by rw [hw']; rfl, by omega, fun k hk => hoth k ?_⟩
    omega
theorem Sim.consK {P : Program} {w0 : World} {out : Nat → Prop} {kx : List Value} {ds : List Deferred} {n : Nat} {T : List (Nat × V)} {H : List (Nat × Row)} {K : List V} {v : V} {x : Value} (hs : Sim ⟨P, w0, out, kx, ds⟩ g ⟨n, T, H, K⟩ a w) (hv : VRep w (qt ⟨P, w0, out, kx, ds⟩ H g) g v x) : Sim ⟨P, w0, out, x :: kx, ds⟩ g ⟨n, T, H, v :: K⟩ a w :=
  ⟨hs.size, hs.defers, hs.tmp, hs.nul, hs.obj, fun j u y h1 h2 => by
    cases j with
    | zero =>
      simp only [List.getElem?_cons_zero, Option.some.injEq] at h1 h2
      subst h1 h2
      exact hv
    | succ j => exact hs.keep j u y (by simpa using h1) (by simpa using h2), hs.inj, hs.base, hs.low, hs.below⟩
theorem Sim.tailK {P : Program} {w0 : World} {out : Nat → Prop} {kx : List Value} {ds : List Deferred} {n : Nat} {T : List (Nat × V)} {H : List (Nat × Row)} {K : List V} {v : V} {x : Value} (hs : Sim ⟨P, w0, out, x :: kx, ds⟩ g ⟨n, T, H, v :: K⟩ a w) : Sim ⟨P, w0, out, kx, ds⟩ g ⟨n, T, H, K⟩ a w :=
  ⟨hs.size, hs.defers, hs.tmp, hs.nul, hs.obj, fun j u y h1 h2 => hs.keep (j + 1) u y (by simpa using h1) (by simpa using h2), hs.inj, hs.base, hs.low, hs.below⟩
theorem Sim.headK {P : Program} {w0 : World} {out : Nat → Prop} {kx : List Value} {ds : List Deferred} {n : Nat} {T : List (Nat × V)} {H : List (Nat × Row)} {K : List V} {b N : Nat} {ob : Obj} {x : Value} (hs : Sim ⟨P, w0, out, x :: kx, ds⟩ g ⟨n, T, H, .blk b N ob :: K⟩ a w) : N ≤ b ∧ w.heap[b]? = some ob := by
  have h := hs.keep 0 _ x rfl rfl
  cases h with
  | blk _ _ _ _ h1 h2 h3 => exact ⟨h1, h3⟩
/-- The kept block holds something else now. -/
theorem Sim.turnK {P : Program} {w0 : World} {out : Nat → Prop} {kx : List Value} {ds : List Deferred} {n : Nat} {T : List (Nat × V)} {H : List (Nat × Row)} {K : List V} {b : Nat} {ob ob' : Obj} {x : Value} (hs : Sim ⟨P, w0, out, x :: kx, ds⟩ g ⟨n, T, H, .blk b w0.heap.size ob :: K⟩ a w) (hl : lpd ob = true) (hl' : lpd ob' = true) (h : NoBk b T H K) :
    Sim ⟨P, w0, out, x :: kx, ds⟩ g ⟨n, T, H, .blk b w0.heap.size ob' :: K⟩ a (w.putObj b ob') := by
  obtain ⟨h1, h2⟩ := hs.headK
  refine Sim.consK (hs.tailK.setBlk h2 hl h1 h) (.blk _ _ _ _ h1 (fun cs ty fz e => ?_) (World.putObj_heap_same (Array.getElem?_eq_some_iff.1 h2).1))
  subst e
  cases hl'

/-- The fence that bars nothing, in a round of the loop whose record is ro. -/
def fw (ro : Option Nat) : Fence := { Fence.wide with round := ro }
/-- As AW, in a round. -/
def AF (ro : Option Nat) (c : Cx) (code : Code) (Q : Exit → S → Prop) (s : S) : Prop := ∀ g a w, Sim c g s a w → code.wpIn (fw ro) 0 c.P (QQ c Q) a w
def LF (ro : Option Nat) (c : Cx) (ops : Array Oper) (l : List Oper) (Q : Exit → S → Prop) (s : S) : Prop := ∀ g a w, Sim c g s a w → wpListIn (fw ro) 0 c.P ops (QQ c Q) l a w
variable {ro : Option Nat}
theorem AF.aw {x : Code} (h : AF none c x Q s) : AW c x Q s := fun g a w hs => wpIn_wide.1 (h g a w hs)
theorem AF.mono {x : Code} (h : AF ro c x Q s) (hq : ∀ e s, Q e s → Q' e s) : AF ro c x Q' s := fun g a w hs => wpIn_mono (h g a w hs) fun _ _ _ => QQ.mono hq
theorem AF.less {x : Code} {s' : S} (hl : Less s' s) (h : AF ro c x Q s') : AF ro c x Q s := fun g a w hs => h g a w (hs.less hl)
theorem AF.seq {x y : Code} (h : AF ro c x (thenS (AF ro c y Q) Q) s) : AF ro c (.seq x y) Q s := fun g a w hs => wpIn_seq (wpIn_mono (h g a w hs) fun e a' w' hq => by
  obtain ⟨g', s', h1, h2⟩ := hq
  cases e <;> first | exact h1 g' a' w' h2 | exact ⟨g', s', h1, h2⟩)
theorem AF.skip (h : Q .normal s) : AF ro c .skip Q s := fun g a w hs => wpIn_skip ⟨g, s, h, hs⟩
theorem AF.ret (h : Q .ret s) : AF ro c .ret Q s := fun g a w hs => wpIn_ret ⟨g, s, h, hs⟩
theorem AF.exit {id : Nat} (h : Q (.exit id) s) : AF ro c (.exit id) Q s := fun g a w hs => wpIn_exit ⟨g, s, h, hs⟩
theorem AF.block {id : Nat} {x : Code} (h : AF ro c x (inBlockS id Q) s) : AF ro c (.block id x) Q s := fun g a w hs => wpIn_block (wpIn_mono (h g a w hs) fun e a' w' hq => by
  obtain ⟨g', s', h1, h2⟩ := hq
  cases e <;> try exact ⟨g', s', h1, h2⟩
  rename_i id'
  simp only [inBlockS] at h1
  simp only [Exit.inBlock]
  split <;> rename_i hh
  · rw [if_pos hh] at h1; exact ⟨g', s', h1, h2⟩
  · rw [if_neg hh] at h1; exact ⟨g', s', h1, h2⟩)
theorem AF.cond {x : Operand} {t e : Code} {b : Bool} (hc : s.ev x = some (.d (.p (.bool b)))) (ht : b = true → AF ro c t Q s) (hf : b = false → AF ro c e Q s) : AF ro c (.cond x t e) Q s := fun g a w hs =>
  wpIn_cond_split (VRep.p_eq (hs.ev hc)) (fun h => ht h g a w hs) (fun h => hf h g a w hs)
/-- No operation of a list is a defer statement. -/
def noDf (l : List Oper) : Bool := l.all fun o => match o.op with | .defer _ => false | _ => true
theorem noDf_head {o : Oper} {l : List Oper} (h : noDf (o :: l) = true) : (∀ d, o.op ≠ .defer d) ∧ noDf l = true := by
  simp only [noDf, List.all_cons, Bool.and_eq_true] at h
  refine ⟨fun d e => ?_, h.2⟩
  rw [e] at h
  exact absurd h.1 (by simp)
theorem op_in {P : Program} {K : Act → World → Prop} {R : Exit → Act → World → Prop} (hd : ∀ d, o.op ≠ .defer d) (h : o.wp P a w K R) : o.wpIn (fw ro) 0 P a w K R := by
  refine ⟨fun f _ => trivial, ?_⟩
  have e : o.semAt (fw ro).round a.eval = execOp a.eval o := by
    cases ro with
    | none => rfl
    | some l => exact Oper.semAt_some l _ _ hd
  rw [e]
  unfold Oper.wp at h
  cases hr : (execOp a.eval o).run P w with
  | ok x w' =>
    rw [hr] at h
    cases x with
    | enter f args => exact ⟨fun h => (by cases h), callsIn_wide.2 h⟩
    | row row args => exact ⟨fun h => (by cases h), fun cs cs' _ => let ⟨v, w', r, s⟩ := h cs cs'; ⟨v, w', r, stepsIn_wide.2 s⟩⟩
    | value v => exact h
    | skip => exact h
    | defer d => exact h
    | _ => exact h.elim
  | halt x w' =>
    rw [hr] at h
    cases x with
    | panic v => exact h
    | _ => exact h.elim
theorem uponIn_mono {F : Fence} {n : Nat} {P : Program} {K K' : Act → World → Prop} {R : Exit → Act → World → Prop} (hq : ∀ a w, K a w → K' a w) {r : Result Next} (h : o.uponIn F n P a K R r) : o.uponIn F n P a K' R r := by
  cases r with
  | ok x w' =>
    cases x with
    | enter f args => exact ⟨h.1, h.2.mono fun e w'' h => by cases e <;> first | exact hq _ _ h | exact h⟩
    | row row args => exact ⟨h.1, h.2.mono fun v w'' h => hq _ _ h⟩
    | round l f tmps asg bd => exact ⟨h.1, h.2.mono fun e w'' h => by cases e <;> first | exact hq _ _ h | exact h⟩
    | value v => exact hq _ _ h
    | skip => exact hq _ _ h
    | defer d => exact hq _ _ h
    | _ => exact h.elim
  | halt x w' => cases x <;> exact h
def noOut (Q : Exit → S → Prop) : Prop := ∀ s, Q .outgrown s → False
theorem list_in {ops : Array Oper} (hq : noOut Q) : ∀ (l : List Oper) (a : Act) (w : World), noDf l = true → wpList c.P ops (QQ c Q) l a w → wpListIn (fw ro) 0 c.P ops (QQ c Q) l a w
  | [], _, _, _, h => h
  | o :: l, a, w, hd, h => by
    obtain ⟨h1, h2⟩ := noDf_head hd
    simp only [wpList] at h
    simp only [wpListIn]
    split
    · rename_i hw
      rw [if_pos hw] at h
      rcases h with h | ⟨_, a', w', g', s', h3, _⟩
      · have := op_in (ro := ro) h1 h
        exact ⟨this.1, uponIn_mono (fun a w h => list_in hq l a w h2 h) this.2⟩
      · exact (hq _ h3).elim
    · rename_i hw
      rw [if_neg hw] at h
      exact ⟨fun f _ => trivial, list_in hq l _ _ h2 h⟩
theorem AF.region {id : Nat} {l : List Oper} (hq : noOut Q) (hd : noDf l = true) (h : AL c l.toArray l Q s) : AF ro c (.region id l.toArray false) Q s := fun g a w hs => wpIn_region_lit (list_in hq l a w hd (h g a w hs))
theorem AF.regionL {id : Nat} {l : List Oper} (h : LF ro c l.toArray l Q s) : AF ro c (.region id l.toArray false) Q s := fun g a w hs => wpIn_region_lit (h g a w hs)
theorem LF.nil {ops : Array Oper} (h : Q .normal s) : LF ro c ops [] Q s := fun g a w hs => ⟨g, s, h, hs⟩
theorem LF.step {ops : Array Oper} {rest : List Oper} (hg : o.guard = none) (hn : ∀ d, o.op ≠ .defer d) (h : Step c o s (LF ro c ops rest Q)) : LF ro c ops (o :: rest) Q s := fun g a w hs =>
  wpListIn_plain hg fun K hK => op_in hn (h g a w hs K _ fun g' s' a' w' h1 h2 => hK a' w' (h1 g' a' w' h2))
theorem LF.rp {ops : Array Oper} {rest : List Oper} {v : V} (hg : o.guard = none) (hn : ∀ d, o.op ≠ .defer d) (hd : dok s o = true) (h : RP c o s v) (hN : LF ro c ops rest Q (s.put o.dst v)) : LF ro c ops (o :: rest) Q s := LF.step hg hn (h.rd.stepM hd hN).step

def lr (r0 : Loop) (st : LoopState) (p : Option Code) : Loop := { r0 with state := st, pending := p }
/-- How a round ends: the iterator goes on with true, or with false and a jump that waits. -/
def QY (lb N : Nat) (r0 : Loop) (n : Nat) (l' : List Nat) (d : Option Tmp) (Nx : S → Prop) : Exit → S → Prop
  | .normal, s3 => ∃ s4, Less s4 s3 ∧ ∃ K3, s4.K = .blk lb N (.loop (lr r0 .busy none)) :: K3 ∧ NoBk lb s4.T s4.H K3 ∧ Nx (S.put ⟨n, l'.zip K3, s4.H, .blk lb N (.loop (lr r0 .ready none)) :: K3.drop l'.length⟩ d (.d (.p (.bool true))))
  | .ret, s3 => ∃ s4, Less s4 s3 ∧ ∃ K3, s4.K = .blk lb N (.loop (lr r0 .busy none)) :: K3 ∧ NoBk lb s4.T s4.H K3 ∧ Nx (S.put ⟨n, l'.zip K3, s4.H, .blk lb N (.loop (lr r0 .done (some .ret))) :: K3.drop l'.length⟩ d (.d (.p (.bool false))))
  | _, _ => False
theorem run_callFunc {P : Program} {f : FuncId} {fn : Func} {code : Code} {n : Nat} {rs : List ResultVar} (hf : Is P f fn code n rs) (args : Array Value) (w : World) : (callFunc f args).run P w = .ok (.enter f args) w := by
  have hn := hf.name
  have hb' : ¬ fn.body = none := by rw [hf.body]; simp
  simp at hn
  simp [callFunc, Sem.run, hf.func, hn, hb', hf.body, program]
theorem exec_yield {P : Program} {ρ : Operand → Value} {fx : Operand} {xs : Array Operand} {ts : Array TypeId} {lb : Nat} (ho : o.op = .call { callee := .value fx, args := xs, argTypes := ts }) (hfx : ρ fx = .func (.yield lb) #[] #[]) : (execOp ρ o).run P w = (Instr.yield lb (xs.map ρ)).run P w := by
  simp [execOp, ho, resolve, Deferred.ofValue, hfx, invoke, callFunc, Sem.run_bind, Result.andThen]
theorem LF.yield {P : Program} {w0 : World} {out : Nat → Prop} {kx1 : List Value} {n n0 lb p : Nat} {T : List (Nat × V)} {H : List (Nat × Row)} {K1 : List V} {ops : Array Oper} {rest : List Oper} {r0 : Loop} {l : List Nat} (l' : List Nat) {ts ts' : List V} {v : V} {fx x : Operand} {tys : Array TypeId} (hg : o.guard = none)
    (ho : o.op = .call { callee := .value fx, args := #[x], argTypes := tys }) (hfx : S.ev ⟨n, T, H, .blk lb w0.heap.size (.loop (lr r0 .ready none)) :: K1⟩ fx = some (.d (.p (.func (.yield lb) #[] #[]))))
    (hx : S.ev ⟨n, T, H, .blk lb w0.heap.size (.loop (lr r0 .ready none)) :: K1⟩ x = some v) (hps : r0.params = #[p]) (hp : p < n0) (hsz : r0.tmps.size = n0)
    (hrel : ∀ (j i : Nat), l[j]? = some i → ∃ y, r0.tmps[i]? = some y ∧ kx1[j + 1]? = some y) (hK1 : ∀ (j : Nat) (u : V), ts[j]? = some u → K1[j + 1]? = some u)
    (hts' : l'.map (fun i => fnd T i) = ts'.map some) (hd : dok ⟨n, T, H, .blk lb w0.heap.size (.loop (lr r0 .ready none)) :: K1⟩ o = true)
    (h : ∀ kx, AF (some lb) ⟨P, w0, out, undef :: kx, []⟩ r0.assign (thenS (fun s1 => ∃ K2, s1.K = .blk lb w0.heap.size (.loop (lr r0 .ready none)) :: K2 ∧ NoBk lb s1.T s1.H K2 ∧
      AF (some lb) ⟨P, w0, out, undef :: kx, []⟩ r0.body (QY lb w0.heap.size r0 n l' o.dst (LF none ⟨P, w0, out, undef :: kx1, []⟩ ops rest Q)) ⟨s1.n, s1.T, s1.H, .blk lb w0.heap.size (.loop (lr r0 .busy none)) :: K2⟩) (fun _ _ => False))
      ⟨n0, (p, v) :: l.zip ts, H, .blk lb w0.heap.size (.loop (lr r0 .ready none)) :: (ts' ++ K1)⟩) :
    LF none ⟨P, w0, out, undef :: kx1, []⟩ ops (o :: rest) Q ⟨n, T, H, .blk lb w0.heap.size (.loop (lr r0 .ready none)) :: K1⟩ := by
  intro g a w hs
  obtain ⟨hNb, hblk⟩ := hs.headK
  have hfe := VRep.p_eq (hs.ev hfx)
  have hxv := hs.ev hx
  have hll : l'.length = ts'.length := by simpa using congrArg List.length hts'
  have hlt' : ∀ (j i : Nat), l'[j]? = some i → ∃ v x, ts'[j]? = some v ∧ fnd T i = some v ∧ a.tmps[i]? = some x ∧ VRep w (qt ⟨P, w0, out, undef :: kx1, []⟩ H g) g v x := by
    intro j i h1
    have hj : j < ts'.length := by rw [← hll]; exact (List.getElem?_eq_some_iff.1 h1).1
    have h3 := congrArg (fun l => l[j]?) hts'
    simp only [List.getElem?_map, h1, List.getElem?_eq_getElem hj, Option.map_some, Option.some.injEq] at h3
    obtain ⟨x, h4, h5⟩ := hs.tmp i _ h3
    exact ⟨_, x, List.getElem?_eq_getElem hj, h3, h4, h5⟩
  have hsim : Sim ⟨P, w0, out, undef :: (l'.map (fun i => a.tmps.getD i undef) ++ kx1), []⟩ g ⟨n0, (p, v) :: l.zip ts, H, .blk lb w0.heap.size (.loop (lr r0 .ready none)) :: (ts' ++ K1)⟩ { tmps := r0.tmps.setIfInBounds p (a.eval x), defers := [] } w := by
    refine ⟨by simpa using hsz, rfl, ?_, hs.nul, hs.obj, ?_, hs.inj, hs.base, hs.low, hs.below⟩
    · intro i u hu
      simp only [fnd] at hu
      split at hu
      · rename_i e
        simp only [beq_iff_eq] at e
        simp only [Option.some.injEq] at hu
        subst e hu
        exact ⟨a.eval x, by simp [hsz, hp], hxv⟩
      · rename_i e
        obtain ⟨j, h1, h2⟩ := fnd_zip l ts i u hu
        obtain ⟨y, h3, h4⟩ := hrel j i h1
        refine ⟨y, ?_, hs.keep (j + 2) u y (by simpa using hK1 j u h2) (by simpa using h4)⟩
        rw [Array.getElem?_setIfInBounds_ne (by simpa using e)]
        exact h3
    · intro j v' x' h1 h2
      cases j with
      | zero => exact hs.keep 0 v' x' h1 h2
      | succ j =>
        simp only [List.getElem?_cons_succ] at h1 h2
        by_cases hj : j < ts'.length
        · rw [List.getElem?_append_left hj] at h1
          rw [List.getElem?_append_left (by simp; omega)] at h2
          simp only [List.getElem?_map] at h2
          cases h3 : l'[j]? with
          | none => rw [h3] at h2; cases h2
          | some i =>
            rw [h3] at h2
            simp only [Option.map_some, Option.some.injEq] at h2
            obtain ⟨v1, x1, h4, h5, h6, h7⟩ := hlt' j i h3
            rw [h4] at h1
            simp only [Option.some.injEq] at h1
            subst h1
            have : x' = x1 := by rw [← h2]; simp [Array.getD_eq_getD_getElem?, h6]
            subst this
            exact h7
        · rw [List.getElem?_append_right (by omega)] at h1
          rw [List.getElem?_append_right (by simp; omega)] at h2
          refine hs.keep (j - ts'.length + 1) v' x' (by simpa using h1) ?_
          simpa [hll] using h2
  refine wpListIn_plain hg fun K hK => ⟨fun f _ => trivial, ?_⟩
  have e0 : o.semAt (fw none).round a.eval = execOp a.eval o := rfl
  have htm : (r0.params.zip #[a.eval x]).foldl (fun tmps (t, a) => tmps.setIfInBounds t a) r0.tmps = r0.tmps.setIfInBounds p (a.eval x) := by rw [hps]; simp [Array.zip]
  have hy := run_yield (P := P) (args := #[a.eval x]) hblk (by simp [lr, hps])
  simp only [lr] at hy
  rw [htm] at hy
  rw [e0, exec_yield ho hfe, show (#[x].map a.eval) = #[a.eval x] by simp, hy]
  refine ⟨fun h => (by cases h), roundIn_of_wpIn trivial ?_⟩
  refine wpIn_mono (h (l'.map (fun i => a.tmps.getD i undef) ++ kx1) g _ w hsim) fun e a1 w1 hq => ?_
  obtain ⟨g1, s1, h1, h2⟩ := hq
  cases e with
  | normal =>
    obtain ⟨K2, hK2, hnb, hbody⟩ := h1
    have h2' : Sim ⟨P, w0, out, undef :: (l'.map (fun i => a.tmps.getD i undef) ++ kx1), []⟩ g1 ⟨s1.n, s1.T, s1.H, .blk lb w0.heap.size (.loop (lr r0 .ready none)) :: K2⟩ a1 w1 := by
      rw [← hK2]; exact h2
    obtain ⟨_, hb1⟩ := h2'.headK
    refine ⟨_, run_beginRound hb1 rfl, ?_⟩
    have h3 := h2'.turnK (ob' := .loop (lr r0 .busy none)) rfl rfl hnb
    refine wpIn_mono (hbody g1 a1 _ h3) fun e a3 w3 hq => ?_
    obtain ⟨g3, s3, h4, h5⟩ := hq
    have fin : ∀ (st : LoopState) (jump : Option Code), lr r0 st jump = { lr r0 .busy none with state := if jump.isNone then .ready else .done, pending := jump } →
        (∃ s4, Less s4 s3 ∧ ∃ K3, s4.K = .blk lb w0.heap.size (.loop (lr r0 .busy none)) :: K3 ∧ NoBk lb s4.T s4.H K3 ∧ LF none ⟨P, w0, out, undef :: kx1, []⟩ ops rest Q (S.put ⟨n, l'.zip K3, s4.H, .blk lb w0.heap.size (.loop (lr r0 st jump)) :: K3.drop l'.length⟩ o.dst (.d (.p (.bool jump.isNone))))) →
        ∃ v w', (Instr.endRound lb jump).run P w3 = .ok v w' ∧ K (a.put o.dst v) w' := by
      rintro st jump hst ⟨s4, hle, K3, hK3, hnb3, hN⟩
      have h6 := h5.less hle
      obtain ⟨n4, T4, H4, K4⟩ := s4
      simp only at hK3
      subst hK3
      have h7 := h6.turnK (ob' := .loop (lr r0 st jump)) rfl rfl hnb3
      refine ⟨_, _, run_endRound jump h6.headK.2, ?_⟩
      rw [← hst]
      refine hK _ _ (hN g3 _ _ (Sim.put (s := ⟨n, l'.zip K3, H4, .blk lb w0.heap.size (.loop (lr r0 st jump)) :: K3.drop l'.length⟩) (c := ⟨P, w0, out, undef :: kx1, []⟩) ?_ o.dst (dok_spec hd) (.d _ _ (.p _))))
      refine ⟨hs.size, hs.defers, ?_, h7.nul, h7.obj, ?_, h7.inj, h7.base, h7.low, h7.below⟩
      · intro i v' hv
        obtain ⟨j, k1, k2⟩ := fnd_zip _ _ i v' hv
        obtain ⟨v1, x1, k3, k4, k5, k6⟩ := hlt' j i k1
        refine ⟨x1, k5, h7.keep (j + 1) v' x1 (by simpa using k2) ?_⟩
        have hj : j < l'.length := (List.getElem?_eq_some_iff.1 k1).1
        simp only [List.getElem?_cons_succ]
        rw [List.getElem?_append_left (by simpa using hj)]
        simp [k1, Array.getD_eq_getD_getElem?, k5]
      · intro j v' x' k1 k2
        cases j with
        | zero => exact h7.keep 0 v' x' k1 k2
        | succ j =>
          refine h7.keep (l'.length + j + 1) v' x' (by simpa using k1) ?_
          simp only [List.getElem?_cons_succ] at k2 ⊢
          rw [List.getElem?_append_right (by simp)]
          simpa using k2
    cases e with
    | normal => exact fin .ready none rfl h4
    | ret => exact fin .done (some .ret) rfl h4
    | _ => exact h4.elim
  | _ => exact h1.elim

/-- How the iterator's own walk ends: the outer frame goes on with a jump or without. -/
def QR (lb N db : Nat) (r0 : Loop) (n : Nat) (l : List Nat) (Nx : Option Code → Nat → S → Prop) : Exit → S → Prop := fun e s1 => (e = .normal ∨ e = .ret) ∧ ∃ s2, Less s2 s1 ∧ ∃ jump st K1, s2.K = .blk lb N (.loop (lr r0 st jump)) :: .blk db N (.deferred (some [])) :: K1 ∧ st ≠ .busy ∧ (jump = none ∨ jump = some .ret) ∧
  NoBk lb (l.zip K1) s2.H (.blk db N (.deferred (some [])) :: K1.drop l.length) ∧ Nx jump db ⟨n, l.zip K1, s2.H, .blk db N (.deferred (some [])) :: K1.drop l.length⟩
def jex : Option Code → Exit
  | none => .normal
  | some _ => .ret
def mk (db : Nat) : List Deferred := [{ target := .collected db, args := #[] }]
theorem range_fn {P : Program} {w0 : World} {out : Nat → Prop} {n p nn : Nat} {T : List (Nat × V)} {H : List (Nat × Row)} {go : Operand} {asg body code : Code} {R : Exit → Act → World → Prop} {f : FuncId} {fn : Func} {caps : List V} (hf : Is P f fn code nn []) (hgo : S.ev ⟨n, T, H, []⟩ go = some (.fn f caps)) (hn : 1 + caps.length ≤ nn) (l : List Nat) {ts : List V} (hts : l.map (fun i => fnd T i) = ts.map some)
    (Nx : Option Code → Nat → S → Prop) (hN : ∀ jump db s', Nx jump db s' → ∀ g a w, Sim ⟨P, w0, out, [undef], mk db⟩ g s' a w → R (jex jump) a w)
    (h : ∀ (lb db : Nat) (kx1 : List Value) (r0 : Loop), db ≠ lb → r0.params = #[p] → r0.tmps.size = n → r0.assign = asg → r0.body = body → (∀ (j i : Nat), l[j]? = some i → ∃ y, r0.tmps[i]? = some y ∧ kx1[j + 1]? = some y) →
      AW ⟨P, w0, out, undef :: kx1, []⟩ code (QR lb w0.heap.size db r0 n l Nx) ⟨nn, enum 0 (.d (.p (.func (.yield lb) #[] #[])) :: caps), H, .blk lb w0.heap.size (.loop (lr r0 .ready none)) :: .blk db w0.heap.size (.deferred (some [])) :: ts⟩) :
    ∀ g a w, Sim ⟨P, w0, out, [], []⟩ g ⟨n, T, H, []⟩ a w → (Code.rangeFunc go #[p] asg body).wp P R a w := by
  intro g a w hs
  have hgv := hs.ev hgo
  obtain ⟨cs, hge, hcl, hcr⟩ : ∃ cs : List Value, a.eval go = .func (.func f) #[] cs.toArray ∧ caps.length = cs.length ∧ ∀ (j : Nat) (u : V) (y : Value), caps[j]? = some u → cs[j]? = some y → VRep w (qt ⟨P, w0, out, [], []⟩ H g) g u y := by
    generalize a.eval go = u at hgv
    cases hgv with
    | fn _ _ cs hl h => exact ⟨cs, rfl, hl, h⟩
  have hll : l.length = ts.length := by simpa using congrArg List.length hts
  have hlt' : ∀ (j i : Nat), l[j]? = some i → ∃ v x, ts[j]? = some v ∧ fnd T i = some v ∧ a.tmps[i]? = some x ∧ VRep w (qt ⟨P, w0, out, [], []⟩ H g) g v x := by
    intro j i h1
    have hj : j < ts.length := by rw [← hll]; exact (List.getElem?_eq_some_iff.1 h1).1
    have h3 := congrArg (fun l => l[j]?) hts
    simp only [List.getElem?_map, h1, List.getElem?_eq_getElem hj, Option.map_some, Option.some.injEq] at h3
    obtain ⟨x, h4, h5⟩ := hs.tmp i _ h3
    exact ⟨_, x, List.getElem?_eq_getElem hj, h3, h4, h5⟩
  refine (wpIn_wide (n := 0)).1 (wpIn_rangeFunc fun fi _ => ?_)
  obtain ⟨r0, hr0⟩ : ∃ r0 : Loop, r0 = { state := .ready, pending := none, fn := fi, tmps := a.tmps, params := #[p], assign := asg, body := body, defers := w.heap.size } := ⟨_, rfl⟩
  obtain ⟨w1, hw1⟩ : ∃ w1, w1 = (w.alloc (.deferred (some []))).alloc (.loop (lr r0 .ready none)) := ⟨_, rfl⟩
  have hB : Below w.heap.size w w1 := by rw [hw1]; exact ((Below.refl _ w).alloc (Nat.le_refl _) _).alloc (by simp) _
  have hL1 : w1.heap[w.heap.size + 1]? = some (.loop (lr r0 .ready none)) := by
    rw [hw1]; have := World.alloc_heap_new (w.alloc (.deferred (some []))) (.loop (lr r0 .ready none)); rwa [World.size_alloc] at this
  have hD1 : w1.heap[w.heap.size]? = some (.deferred (some [])) := by
    rw [hw1]; exact (Below.heap_alloc _ _ _ (by simp)).trans (World.alloc_heap_new w _)
  have hsz : w0.heap.size ≤ w.heap.size := hs.below.size
  have hs1 := hs.move hB
  have hcr1 : ∀ (j : Nat) (u : V) (y : Value), caps[j]? = some u → cs[j]? = some y → VRep w1 (qt ⟨P, w0, out, [], []⟩ H g) g u y := fun j u y h1 h2 => (hcr j u y h1 h2).mono ⟨hB.size, fun b o u _ h1 h2 => (hB.cell (p := ⟨b, o, none⟩) h1).trans h2, Below.maps hB⟩ (fun _ h _ => h) (fun r _ => rfl)
  have hsim : Sim ⟨P, w0, out, undef :: undef :: l.map (fun i => a.tmps.getD i undef), []⟩ g ⟨nn, enum 0 (.d (.p (.func (.yield (w.heap.size + 1)) #[] #[])) :: caps), H, .blk (w.heap.size + 1) w0.heap.size (.loop (lr r0 .ready none)) :: .blk w.heap.size w0.heap.size (.deferred (some [])) :: ts⟩
      { tmps := (#[Value.func (.yield (w.heap.size + 1)) #[] #[]] ++ cs.toArray) ++ Array.replicate (fn.ntmps - (#[Value.func (.yield (w.heap.size + 1)) #[] #[]] ++ cs.toArray).size) undef, defers := [] } w1 := by
    refine Sim.consK (Sim.consK ⟨?_, rfl, ?_, hs1.nul, hs1.obj, ?_, hs1.inj, hs1.base, hs1.low, hs1.below⟩ (.blk _ _ _ _ hsz (fun _ _ _ e => by cases e) hD1)) (.blk _ _ _ _ (by omega) (fun _ _ _ e => by cases e) hL1)
    · simp [hf.ntmps]; omega
    · intro i v hv
      obtain ⟨_, h2⟩ := fnd_enum _ 0 i v hv
      simp only [Nat.sub_zero] at h2
      have hlen : (Value.func (.yield (w.heap.size + 1)) #[] #[] :: cs).length = 1 + caps.length := by simp; omega
      have hi : i < (Value.func (.yield (w.heap.size + 1)) #[] #[] :: cs).length := by
        have := (List.getElem?_eq_some_iff.1 h2).1
        simp at this ⊢; omega
      have harr : #[Value.func (.yield (w.heap.size + 1)) #[] #[]] ++ cs.toArray = (Value.func (.yield (w.heap.size + 1)) #[] #[] :: cs).toArray := by simp
      refine ⟨(Value.func (.yield (w.heap.size + 1)) #[] #[] :: cs)[i], ?_, ?_⟩
      · rw [hf.ntmps, harr]
        exact enter_get (List.getElem?_eq_getElem hi) (by omega)
      · cases i with
        | zero =>
          simp only [List.getElem?_cons_zero, Option.some.injEq] at h2
          subst h2
          exact .d _ _ (.p _)
        | succ i =>
          simp only [List.getElem?_cons_succ] at h2
          exact hcr1 i v _ h2 (by simp at hi ⊢)
    · intro j v x h1 h2
      simp only [List.getElem?_map] at h2
      cases h3 : l[j]? with
      | none => rw [h3] at h2; cases h2
      | some i =>
        rw [h3] at h2
        simp only [Option.map_some, Option.some.injEq] at h2
        obtain ⟨v1, x1, h4, h5, h6, _⟩ := hlt' j i h3
        obtain ⟨x2, h7, h8⟩ := hs1.tmp i _ h5
        rw [h4] at h1
        simp only [Option.some.injEq] at h1
        subst h1
        have : x = x2 := by rw [← h2]; simp [Array.getD_eq_getD_getElem?, h7]
        subst this
        exact h8
  refine ⟨w.heap.size + 1, mk w.heap.size, w1, { target := .fn (.func f) cs.toArray, args := #[.func (.yield (w.heap.size + 1)) #[] #[]] }, w1, f, #[.func (.yield (w.heap.size + 1)) #[] #[]] ++ cs.toArray, w1, ?_, ?_, fun _ _ => trivial, ?_, fun h => (by cases h), ?_⟩
  · rw [hw1, hr0]; exact run_enterLoop_outer _ _ _ _ _
  · simp only [resolve, hge]
    simp [go_sem]
  · simp [invoke, go_sem, run_callFunc hf]
  · refine callsIn_wide.2 (calls_of_wp hf.func hf.body (wp_mono (h (w.heap.size + 1) w.heap.size (undef :: l.map (fun i => a.tmps.getD i undef)) r0 (by omega) (by rw [hr0]) (by rw [hr0]; exact hs.size) (by rw [hr0]) (by rw [hr0]) (fun j i h1 => ?_) g _ w1 hsim) fun e a2 w2 hq => ?_))
    · obtain ⟨v, x, _, _, h3, _⟩ := hlt' j i h1
      refine ⟨x, by rw [hr0]; exact h3, ?_⟩
      simp [h1, Array.getD_eq_getD_getElem?, h3]
    · obtain ⟨g2, s1, ⟨he, s2, hle, jump, st, K1, hK1, hst, hj, hnb, hNx⟩, h2⟩ := hq
      have h3 := h2.less hle
      obtain ⟨n2, T2, H2, K2⟩ := s2
      simp only at hK1
      subst hK1
      have hL := h3.headK.2
      obtain ⟨xr, _, hres⟩ := run_results hf.results h3 (vs := []) trivial
      have hgoal : rangePost Fence.wide 0 P (w.heap.size + 1) R { a with defers := mk w.heap.size ++ a.defers } (.returned xr) w2 := by
        refine ⟨jump, _, run_endLoop hL hst, ?_⟩
        have h4 : Sim ⟨P, w0, out, [undef], mk w.heap.size⟩ g2 ⟨n, l.zip K1, H2, .blk w.heap.size w0.heap.size (.deferred (some [])) :: K1.drop l.length⟩ { a with defers := mk w.heap.size ++ a.defers } w2 := by
          refine ⟨hs.size, by rw [hs.defers]; rfl, ?_, h3.nul, h3.obj, ?_, h3.inj, h3.base, h3.low, h3.below⟩
          · intro i v hv
            obtain ⟨j, k1, k2⟩ := fnd_zip _ _ i v hv
            obtain ⟨v1, x1, k3, k4, k5, k6⟩ := hlt' j i k1
            refine ⟨x1, k5, h3.keep (j + 2) v x1 (by simpa using k2) ?_⟩
            simp [k1, Array.getD_eq_getD_getElem?, k5]
          · intro j v x k1 k2
            cases j with
            | zero => exact h3.keep 1 v x k1 k2
            | succ j => simp at k2
        have h5 := h4.setBlk (ob' := .loop { lr r0 st jump with state := .exhausted }) hL rfl h3.headK.1 hnb
        rcases hj with rfl | rfl
        · exact hN none _ _ hNx g2 _ _ h5
        · exact wpIn_ret (hN (some .ret) _ _ hNx g2 _ _ h5)
      have hfin : a2.defers = [] ∧ ∃ v, (results fn a2.tmps).run P w2 = .ok v w2 ∧ rangePost Fence.wide 0 P (w.heap.size + 1) R { a with defers := mk w.heap.size ++ a.defers } (.returned v) w2 := ⟨h3.defers, _, hres, hgoal⟩
      rcases he with rfl | rfl
      · exact hfin
      · exact hfin
end
end Go.Proofs.YtlgnjehfojogmaaDoor
namespace Go.Proofs.YtlgnjehfojogmaaDoor
open Go.Shelf Go.RowKit Go.Sort Go.Lib
def lays137_ren : Go.Shelf.Ren := ⟨fun | 137 => 39 | 217 => 66 | 266 => 83 | n => n, fun | 9 => 9 | 5 => 5 | 3 => 3 | n => n, fun | n => n⟩
theorem lays137 : Go.Proofs.Lays.n137 Tryd.prog lays137_ren := {
  mixed := by kernel_rfl
  f137 := Tryd.func39.trans (congrArg some (by kernel_rfl))
  f217 := Tryd.func66.trans (congrArg some (by kernel_rfl))
  f266 := Tryd.func83.trans (congrArg some (by kernel_rfl))
  t3 := Tryd.underlying3
  a3 := Tryd.isAgg3
  z3 := Tryd.sizeOf3
  v3 := Tryd.zeroValue3
  t5 := Tryd.underlying5
  a5 := Tryd.isAgg5
  z5 := Tryd.sizeOf5
  v5 := Tryd.zeroValue5
  t9 := Tryd.underlying9
  a9 := Tryd.isAgg9
  z9 := Tryd.sizeOf9
  v9 := Tryd.zeroValue9 }
theorem indexByte_call (s : ByteArray) (c : Int) (w : World) :
    Calls Tryd.prog 39 #[.string s, .int .u8 c] w fun e w' => e = .returned (.int .i64 (Lib.indexByte s.data.toList c.toNat.toUInt8)) ∧ w' = w := Any.strings_IndexByte lays137 s c w
def lays102_ren : Go.Shelf.Ren := ⟨fun | 102 => 19 | 209 => 43 | 207 => 73 | n => n, fun | 9 => 9 | 4 => 4 | 3 => 3 | n => n, fun | n => n⟩
theorem lays102 : Go.Proofs.Lays.n102 Tryd.prog lays102_ren := {
  mixed := by kernel_rfl
  f102 := Tryd.func19.trans (congrArg some (by kernel_rfl))
  f207 := Tryd.func73.trans (congrArg some (by kernel_rfl))
  f209 := Tryd.func43.trans (congrArg some (by kernel_rfl))
  t3 := Tryd.underlying3
  a3 := Tryd.isAgg3
  z3 := Tryd.sizeOf3
  v3 := Tryd.zeroValue3
  t4 := Tryd.underlying4
  a4 := Tryd.isAgg4
  z4 := Tryd.sizeOf4
  v4 := Tryd.zeroValue4
  t9 := Tryd.underlying9
  a9 := Tryd.isAgg9
  z9 := Tryd.sizeOf9
  v9 := Tryd.zeroValue9 }
theorem trimSuffix_call (s p : ByteArray) (w : World) (hs : s.size ≤ 9223372036854775807) :
    Calls Tryd.prog 19 #[.string s, .string p] w fun e w' => e = .returned (.string ⟨(Lib.trimSuffix s.data.toList p.data.toList).toArray⟩) ∧ w' = w := Any.strings_TrimSuffix lays102 s p w hs
end Go.Proofs.YtlgnjehfojogmaaDoor
namespace Go.Proofs.YtlgnjehfojogmaaDoor
open Go.RowKit
set_option linter.unusedSimpArgs false
set_option linter.unusedVariables false
set_option maxRecDepth 100000

/-- A text's first line, with its line feed; what is behind it. -/
def ln1 : List UInt8 → List UInt8
  | [] => []
  | b :: l => if b = 10 then [b] else b :: ln1 l
def ln2 : List UInt8 → List UInt8
  | [] => []
  | b :: l => if b = 10 then l else ln2 l
theorem ln_app : ∀ l : List UInt8, ln1 l ++ ln2 l = l
  | [] => rfl
  | b :: l => by
    unfold ln1 ln2
    split
    · rfl
    · rw [List.cons_append, ln_app l]
theorem ln2_lt : ∀ l : List UInt8, l ≠ [] → (ln2 l).length < l.length
  | [], h => absurd rfl h
  | b :: l, _ => by
    unfold ln2
    split
    · simp
    · cases l with
      | nil => simp [ln2]
      | cons d l => have := ln2_lt (d :: l) (by simp); simp at this ⊢; omega
theorem ln_index : ∀ l : List UInt8, (Lib.indexByte l 10 = -1 ∧ ln1 l = l ∧ ln2 l = []) ∨ ∃ k : Nat, Lib.indexByte l 10 = k ∧ k < l.length ∧ ln1 l = l.take (k + 1) ∧ ln2 l = l.drop (k + 1)
  | [] => .inl ⟨rfl, rfl, rfl⟩
  | b :: l => by
    by_cases hb : b = 10
    · subst hb
      exact .inr ⟨0, by simp [Lib.indexByte], by simp, by simp [ln1], by simp [ln2]⟩
    · have h1 : (b == 10) = false := by simpa using hb
      rcases ln_index l with ⟨h2, h3, h4⟩ | ⟨k, h2, h3, h4, h5⟩
      · exact .inl ⟨by simp [Lib.indexByte, h1, h2], by simp [ln1, hb, h3], by simp [ln2, hb, h4]⟩
      · refine .inr ⟨k + 1, ?_, by simp; omega, by simp [ln1, hb, h4], by simp [ln2, hb, h5]⟩
        have : ¬ ((k : Int) = -1) := by omega
        simp [Lib.indexByte, h1, h2, this]
def bs (l : List UInt8) : ByteArray := ⟨l.toArray⟩
theorem bs_size (l : List UInt8) : (bs l).size = l.length := by simp [bs, ByteArray.size]
theorem bs_list (l : List UInt8) : (bs l).data.toList = l := by simp [bs]
theorem bs_of (b : ByteArray) : bs b.data.toList = b := by cases b; simp [bs]
theorem bs_ext {a b : ByteArray} (h : a.data.toList = b.data.toList) : a = b := by
  cases a; cases b
  simp only [ByteArray.mk.injEq]
  exact Array.ext' h
theorem bs_take (l : List UInt8) (k : Nat) : (bs l).extract 0 k = bs (l.take k) := bs_ext (by rw [Lib.extract_data, bs_list, bs_list]; simp)
theorem bs_drop (l : List UInt8) (k : Nat) : (bs l).extract k (bs l).size = bs (l.drop k) := bs_ext (by rw [Lib.extract_to_end, bs_list, bs_list])
section
variable {c : Cx} {s : S} {o : Oper}
theorem rp_slice_strh {t : TypeId} {x y : Operand} {l : List UInt8} {k : Nat} {n' : Int} (hu : c.P.underlying t = some .string) (ho : o.op = .slice t x none (some y) none) (hx : s.ev x = some (.s (bs l))) (hy : s.ev y = some (.i n')) (hk : n' = (k : Int)) (h : k ≤ l.length) : RP c o s (.s (bs (l.take k))) := fun g a w hs => by
  refine ⟨.string (bs (l.take k)), .d _ _ (.p _), fun w' => ?_⟩
  subst hk
  have hr := run_slice_string_h (P := c.P) w' t (bs l) hu .i64 (k : Int) (by omega) (by rw [bs_size]; omega)
  rw [Int.toNat_natCast, bs_take] at hr
  simp only [execOp, ho, VRep.p_eq (hs.ev hx), VRep.p_eq (hs.ev hy), Option.map_some, Option.map_none, Sem.run_bind, run_sliceAt_string _ t _ _ _ _ hu, hr, Result.andThen_ok]
  rfl
theorem rp_slice_strl {t : TypeId} {x y : Operand} {l : List UInt8} {k : Nat} {n' : Int} (hu : c.P.underlying t = some .string) (ho : o.op = .slice t x (some y) none none) (hx : s.ev x = some (.s (bs l))) (hy : s.ev y = some (.i n')) (hk : n' = (k : Int)) (h : k ≤ l.length) : RP c o s (.s (bs (l.drop k))) := fun g a w hs => by
  refine ⟨.string (bs (l.drop k)), .d _ _ (.p _), fun w' => ?_⟩
  subst hk
  have hr := run_slice_string_l (P := c.P) w' t (bs l) hu .i64 (k : Int) (by omega) (by rw [bs_size]; omega)
  rw [Int.toNat_natCast, bs_drop] at hr
  simp only [execOp, ho, VRep.p_eq (hs.ev hx), VRep.p_eq (hs.ev hy), Option.map_some, Option.map_none, Sem.run_bind, run_sliceAt_string _ t _ _ _ _ hu, hr, Result.andThen_ok]
  rfl
end
end Go.Proofs.YtlgnjehfojogmaaDoor
namespace Go.Proofs.YtlgnjehfojogmaaDoor
open Go.RowKit
set_option linter.unusedSimpArgs false
set_option linter.unusedVariables false

section
variable {P : Program} {ops : Array Oper} {Q : Exit → Act → World → Prop} {md : Region.Mode} {T : World → Prop} {need : Nat → Bool}
def ASeqF (P : Program) (ops : Array Oper) (Q : Exit → Act → World → Prop) (T : World → Prop) (need : Nat → Bool) : List (Nat × Nat) → Act → World → Prop
  | [], a, w => Q .normal a w
  | (i, 0) :: r, a, w => wpOp P ops Q i (fun a' w' => (need i = true → T w → T w') ∧ ASeqF P ops Q T need r a' w') a w
  | (i, 1) :: r, a, w => ∃ oi x, ops[i]? = some oi ∧ YieldsIf P ops T oi x a ∧ T w ∧ (∀ c a w, Q (.panic c) (a.put oi.dst x) w → Q (.panic c) a w) ∧ ASeqF P ops Q T need r (a.put oi.dst x) w
  | (i, _ + 2) :: r, a, w => ∃ oi x, ops[i]? = some oi ∧ YieldsIf P ops (fun _ => True) oi x a ∧ (∀ c a w, Q (.panic c) (a.put oi.dst x) w → Q (.panic c) a w) ∧ ASeqF P ops Q T need r (a.put oi.dst x) w
end

section
variable {c : Cx} {s : S} {Q : Exit → S → Prop} {ops : Array Oper} {L : List Oper} {need : Nat → Bool} {l : List (Nat × Nat)} {i : Nat} {o : Oper}
/-- First reads, then what makes new memory, then anything. -/
def AF1 (c : Cx) (ops : Array Oper) (Q : Exit → S → Prop) (need : Nat → Bool) (l : List (Nat × Nat)) (s : S) : Prop := ∀ g a w, Sim c g s a w → ASeqF c.P ops (QQ c Q) (Below w.heap.size w) need l a w
def AF2 (c : Cx) (ops : Array Oper) (Q : Exit → S → Prop) (need : Nat → Bool) (l : List (Nat × Nat)) (s : S) : Prop := ∀ W g a w, Sim c g s a w → Below W.heap.size W w → ASeqF c.P ops (QQ c Q) (Below W.heap.size W) need l a w
def AF3 (c : Cx) (ops : Array Oper) (Q : Exit → S → Prop) (need : Nat → Bool) (l : List (Nat × Nat)) (s : S) : Prop := ∀ (T : World → Prop) g a w, Sim c g s a w → ASeqF c.P ops (QQ c Q) T need l a w
theorem AF1.rd {v : V} (hi : L[i]? = some o) (hg : o.guard = none) (hd : dok s o = true) (hp : noP Q) (h : RD c o s v) (hN : AF1 c L.toArray Q need l (s.put o.dst v)) : AF1 c L.toArray Q need ((i, 1) :: l) s := fun g a w hs => by
  obtain ⟨x, h1, h2⟩ := h g a w hs
  exact ⟨o, x, by simpa using hi, .inl ⟨by simp [Region.wanted, hg], h2⟩, Below.refl _ _, QQ_noP hp _ _, hN g _ w (hs.put o.dst (dok_spec hd) h1)⟩
theorem AF1.rdy {v : V} {j : Nat} {b : Bool} (hi : L[i]? = some o) (hg : o.guard = some (j, b)) (hy : yld L.toArray s j = some b) (hd : dok s o = true) (hp : noP Q) (h : RD c o s v) (hN : AF1 c L.toArray Q need l (s.put o.dst v)) : AF1 c L.toArray Q need ((i, 1) :: l) s := fun g a w hs => by
  obtain ⟨x, h1, h2⟩ := h g a w hs
  exact ⟨o, x, by simpa using hi, .inl ⟨by simp [Region.wanted, hg, yld_spec hy hs], h2⟩, Below.refl _ _, QQ_noP hp _ _, hN g _ w (hs.put o.dst (dok_spec hd) h1)⟩
theorem AF1.rp {v : V} (hi : L[i]? = some o) (hg : o.guard = none) (hd : dok s o = true) (hp : noP Q) (h : RP c o s v) (hN : AF1 c L.toArray Q need l (s.put o.dst v)) : AF1 c L.toArray Q need ((i, 2) :: l) s := fun g a w hs => by
  obtain ⟨x, h1, h2⟩ := h g a w hs
  exact ⟨o, x, by simpa using hi, .inl ⟨by simp [Region.wanted, hg], fun w' _ => h2 w'⟩, QQ_noP hp _ _, hN g _ w (hs.put o.dst (dok_spec hd) h1)⟩
theorem AF1.go (h : AF2 c L.toArray Q need l s) : AF1 c L.toArray Q need l s := fun g a w hs => h w g a w hs (Below.refl _ _)
theorem AF1.nil (h : Q .normal s) : AF1 c L.toArray Q need [] s := fun g a w hs => ⟨g, s, h, hs⟩
theorem AF2.rp {v : V} (hi : L[i]? = some o) (hg : o.guard = none) (hd : dok s o = true) (hp : noP Q) (h : RP c o s v) (hN : AF2 c L.toArray Q need l (s.put o.dst v)) : AF2 c L.toArray Q need ((i, 2) :: l) s := fun W g a w hs hb => by
  obtain ⟨x, h1, h2⟩ := h g a w hs
  exact ⟨o, x, by simpa using hi, .inl ⟨by simp [Region.wanted, hg], fun w' _ => h2 w'⟩, QQ_noP hp _ _, hN W g _ w (hs.put o.dst (dok_spec hd) h1) hb⟩
theorem AF2.stepM (hi : L[i]? = some o) (hg : o.guard = none) (h : StepM c o s (AF2 c L.toArray Q need l)) : AF2 c L.toArray Q need ((i, 0) :: l) s := fun W g a w hs hb =>
  wpOp_of (by simpa using hi) hg (h g a w hs _ _ fun g' s' a' w' h1 h2 h3 => ⟨fun _ _ => hb.trans (h3.mono hb.size), h1 W g' a' w' h2 (hb.trans (h3.mono hb.size))⟩)
theorem AF2.sm {X : S} (hi : L[i]? = some o) (hg : o.guard = none) (h : StepM c o s (fun s' => s' = X)) (hN : AF2 c L.toArray Q need l X) : AF2 c L.toArray Q need ((i, 0) :: l) s :=
  AF2.stepM hi hg fun g a w hs K Q' hK => h g a w hs K Q' fun g' s' a' w' e h1 h2 => hK g' s' a' w' (by subst e; exact hN) h1 h2
theorem AF2.call {post : V → Prop} (hi : L[i]? = some o) (hg : o.guard = none) (h : StepM c o s (fun s' => ∃ v, post v ∧ v.pure ∧ s' = s.put o.dst v)) (hN : ∀ v, post v → v.pure → AF2 c L.toArray Q need l (s.put o.dst v)) : AF2 c L.toArray Q need ((i, 0) :: l) s :=
  AF2.stepM hi hg fun g a w hs K Q' hK => h g a w hs K Q' fun g' s' a' w' ⟨v, h1, h2, e⟩ h3 h4 => hK g' s' a' w' (by subst e; exact hN v h1 h2) h3 h4
theorem AF2.rd1 {v : V} (hi : L[i]? = some o) (hg : o.guard = none) (hd : dok s o = true) (h : RD c o s v) (hN : AF2 c L.toArray Q need l (s.put o.dst v)) : AF2 c L.toArray Q need ((i, 0) :: l) s :=
  AF2.stepM hi hg (h.stepM hd hN)
theorem AF2.rp1 {v : V} (hi : L[i]? = some o) (hg : o.guard = none) (hd : dok s o = true) (h : RP c o s v) (hN : AF2 c L.toArray Q need l (s.put o.dst v)) : AF2 c L.toArray Q need ((i, 0) :: l) s := AF2.rd1 hi hg hd h.rd hN
theorem AF2.go (h : AF3 c L.toArray Q need l s) : AF2 c L.toArray Q need l s := fun W g a w hs _ => h _ g a w hs
theorem AF2.nil (h : Q .normal s) : AF2 c L.toArray Q need [] s := fun W g a w hs _ => ⟨g, s, h, hs⟩
theorem AF3.rp {v : V} (hi : L[i]? = some o) (hg : o.guard = none) (hd : dok s o = true) (hp : noP Q) (h : RP c o s v) (hN : AF3 c L.toArray Q need l (s.put o.dst v)) : AF3 c L.toArray Q need ((i, 2) :: l) s := fun T g a w hs => by
  obtain ⟨x, h1, h2⟩ := h g a w hs
  exact ⟨o, x, by simpa using hi, .inl ⟨by simp [Region.wanted, hg], fun w' _ => h2 w'⟩, QQ_noP hp _ _, hN T g _ w (hs.put o.dst (dok_spec hd) h1)⟩
theorem AF3.step (hi : L[i]? = some o) (hg : o.guard = none) (hn : need i = false) (h : Step c o s (AF3 c L.toArray Q need l)) : AF3 c L.toArray Q need ((i, 0) :: l) s := fun T g a w hs =>
  wpOp_of (by simpa using hi) hg (h g a w hs _ _ fun g' s' a' w' h1 h2 => ⟨fun h0 => (by rw [hn] at h0; cases h0), h1 T g' a' w' h2⟩)
theorem AF3.st {X : S} (hi : L[i]? = some o) (hg : o.guard = none) (hn : need i = false) (h : Step c o s (fun s' => s' = X)) (hN : AF3 c L.toArray Q need l X) : AF3 c L.toArray Q need ((i, 0) :: l) s :=
  AF3.step hi hg hn fun g a w hs K Q' hK => h g a w hs K Q' fun g' s' a' w' e h1 => hK g' s' a' w' (by subst e; exact hN) h1
theorem AF3.rd1 {v : V} (hi : L[i]? = some o) (hg : o.guard = none) (hn : need i = false) (hd : dok s o = true) (h : RD c o s v) (hN : AF3 c L.toArray Q need l (s.put o.dst v)) : AF3 c L.toArray Q need ((i, 0) :: l) s :=
  AF3.step hi hg hn (h.stepM hd hN).step
theorem AF3.rp1 {v : V} (hi : L[i]? = some o) (hg : o.guard = none) (hn : need i = false) (hd : dok s o = true) (h : RP c o s v) (hN : AF3 c L.toArray Q need l (s.put o.dst v)) : AF3 c L.toArray Q need ((i, 0) :: l) s := AF3.rd1 hi hg hn hd h.rd hN
theorem AF3.sm {X : S} (hi : L[i]? = some o) (hg : o.guard = none) (hn : need i = false) (h : StepM c o s (fun s' => s' = X)) (hN : AF3 c L.toArray Q need l X) : AF3 c L.toArray Q need ((i, 0) :: l) s := AF3.st hi hg hn h.step hN
theorem AF3.nil (h : Q .normal s) : AF3 c L.toArray Q need [] s := fun T g a w hs => ⟨g, s, h, hs⟩
end
end Go.Proofs.YtlgnjehfojogmaaDoor
namespace Go.Proofs.YtlgnjehfojogmaaDoor
open Go.RowKit
set_option linter.unusedSimpArgs false
set_option linter.unusedVariables false
section
variable {c : Cx} {s : S} {o : Oper} {t t' : TypeId} {x y : Operand} {m n : Int}
end
section
variable {c : Cx} {s : S} {o : Oper} {Q : Exit → S → Prop} {L : List Oper} {need : Nat → Bool} {i : Nat} {r : List (Nat × Nat)}
theorem AF3.pc {P : Program} {f : FuncId} {args : List V} {H : List (Nat × Row)} {K : List V} {post : V → List (Nat × Row) → List V → Prop} {fx : Operand} {xs : Array Operand} {tys : Array TypeId} (hi : L[i]? = some o) (hn : need i = false) (l : List Nat) {ts : List V} (h : PC P f args H K post) (hg : o.guard = none) (hP : c.P = P) (ho : o.op = .call { callee := .value fx, args := xs, argTypes := tys }) (hfx : s.ev fx = some (.fn f [])) (hargs : xs.toList.map s.ev = args.map some)
    (hts : l.map (fun i => fnd s.T i) = ts.map some) (hH : s.H = H) (hK : ts ++ s.K = K) (hd : dok s o = true) (hN : ∀ v H' K', post v H' K' → AF3 c L.toArray Q need r (back s l o.dst v H' K')) : AF3 c L.toArray Q need ((i, 0) :: r) s :=
  AF3.step hi hg hn fun g a w hs K' Q' hK' => h c s o fx xs tys l ts hP ho hfx hargs hts hH hK hd g a w hs K' Q' fun g' s' a' w' ⟨v, H', K2, h1, h2⟩ h3 => hK' g' s' a' w' (by subst h2; exact hN _ _ _ h1) h3
end
end Go.Proofs.YtlgnjehfojogmaaDoor
