/- Part 11 of what the law ScriptReads rests on. -/
import Derived.Test.YtlgnjehfojogmaaDoorPkSc1
import Derived.Test.YtlgnjehfojogmaaDoorPkSc2
import Derived.Test.YtlgnjehfojogmaaDoorPkSc3
import Derived.Test.YtlgnjehfojogmaaDoorPkSc4
import Derived.Test.YtlgnjehfojogmaaDoorPkSc5
import Derived.Test.YtlgnjehfojogmaaDoorPkSc6
import Derived.Test.YtlgnjehfojogmaaDoorPkSc7
import Derived.Test.YtlgnjehfojogmaaDoorPkSc8
import Derived.Test.YtlgnjehfojogmaaDoorPkSc9
import Derived.Test.YtlgnjehfojogmaaDoorPkSc10
namespace Go.Proofs.YtlgnjehfojogmaaDoor
open Go.RowKit
set_option linter.unusedSimpArgs false
set_option linter.unusedVariables false
set_option maxRecDepth 100000

def scR (x : V) (m e : Int) : List (Nat × Row) := [(2, ⟨28, [x], false, 0⟩), (3, ⟨3, [.i m], false, 0⟩), (4, ⟨23, [.i e], false, 0⟩)]
def scH (l : List Stp) (z : Bool) : List (Nat × Row) := [(791, ⟨28, [.own 792 5 l.length z], false, 0⟩), (792, stRow l z), (2, ⟨28, [.nil], false, 0⟩), (3, ⟨3, [.i 0], false, 0⟩), (4, ⟨23, [.i 0], false, 0⟩)]
def scJ (R : List Stp × Int × Int) (rem : List UInt8) (H : List (Nat × Row)) : Prop := rem.length ≤ 2000 ∧ ∃ acc, acc.length ≤ 30 ∧ scn (lns rem) acc = R ∧ H = scH acc acc.isEmpty
def scX (R : List Stp × Int × Int) (H : List (Nat × Row)) : Prop := ∃ m e, R = ([], m, e) ∧ e ≠ 0 ∧ H = scR .nil m e
theorem stpC_bk (l : List Stp) : V.bksL (stpC l) = false := V.bksL_false.2 fun d hd => by
 obtain ⟨x, _, hx⟩ := List.mem_flatMap.1 hd
 simp only [List.mem_cons, List.not_mem_nil, or_false] at hx
 rcases hx with rfl | rfl | rfl | rfl | rfl <;> rfl
theorem scJ_ok {R : List Stp × Int × Int} {rem : List UInt8} {H : List (Nat × Row)} (h : scJ R rem H) : rem.length ≤ 1000000 ∧ H.all (fun x => !V.bksL x.2.cells) = true := by
 obtain ⟨h1, l, _, _, rfl⟩ := h
 refine ⟨by omega, ?_⟩
 simp [scH, stRow, V.bksL, V.bks, stpC_bk]
theorem scH_snoc (l : List Stp) (x : Stp) : scH (l ++ [x]) (l ++ [x]).isEmpty = [(791, ⟨28, [.own 792 5 (l.length + 1) false], false, 0⟩), (792, ⟨60, stpC l ++ [.i x.k, .i x.t, .i x.a, .i x.b, .s x.n], false, 5⟩), (2, ⟨28, [.nil], false, 0⟩), (3, ⟨3, [.i 0], false, 0⟩), (4, ⟨23, [.i 0], false, 0⟩)] := by
 have : (l ++ [x]).isEmpty = false := by cases l <;> rfl
 rw [this]
 simp [scH, stRow, stpC]
set_option maxHeartbeats 4000000 in
theorem am_scRead (text : List UInt8) (R : List Stp × Int × Int) (hR : rdT text = R) : FnP preS Tryd.prog 9 [.s (bs text)] (fun v => v = rdV R) := by
 have hbs := bs_size text
 unfold rdV
 refine FnP.introM (n := 42) ⟨Tryd.func9, rfl, rfl, rfl, rfl⟩ (by simp [V.pure, V.has, V.hasL]) (by simp) fun w0 out hpre => ?_
 simp only [enum]
 refine AX.early ?_
 refine AW.region ?_
 refine AL.sm rfl (sm_alloc (l := [.d (.p (.slice none 0 0))]) 2 inf28 rfl (by first | rfl | simp [S.clean, S.put, S.newObj, S.forget, V.has, V.hasL, junkIf, setL, V.cs, hasL_i, hasL_vd, hasL_vdt, hasL_d, hasL_b, hasL_s, hasL_n, hasL_rep, hasL_flat, hasL_append, -List.map_set]) rfl rfl) ?_
 refine AL.sm rfl (sm_alloc (l := [.d (.p (.int .i64 0))]) 3 inf3 rfl (by first | rfl | simp [S.clean, S.put, S.newObj, S.forget, V.has, V.hasL, junkIf, setL, V.cs, hasL_i, hasL_vd, hasL_vdt, hasL_d, hasL_b, hasL_s, hasL_n, hasL_rep, hasL_flat, hasL_append, -List.map_set]) rfl rfl) ?_
 refine AL.sm rfl (sm_alloc (l := [.d (.p (.int .i64 0))]) 4 inf23 rfl (by first | rfl | simp [S.clean, S.put, S.newObj, S.forget, V.has, V.hasL, junkIf, setL, V.cs, hasL_i, hasL_vd, hasL_vdt, hasL_d, hasL_b, hasL_s, hasL_n, hasL_rep, hasL_flat, hasL_append, -List.map_set]) rfl rfl) ?_
 refine AL.nil ?_
 try simp only [thenS, S.put, S.newObj, setL, V.cs, List.length_cons, List.length_nil, List.take_succ_cons, List.take_zero, List.drop_succ_cons, List.drop_zero, List.drop_nil, List.nil_append, List.cons_append, List.append_nil, Nat.zero_add, Nat.reduceAdd, List.map_cons, List.map_nil, List.set_cons_zero, List.set_cons_succ]
 refine AX.early ?_
 by_cases hbig : 2000 < text.length
 ·obtain rfl : R = ([], 0, 1) := by rw [← hR]; unfold rdT; rw [if_pos hbig]
  dsimp only
  rw [if_neg (by decide)]
  refine AW.seq ?_
  refine AW.region ?_
  refine AL.rp rfl rfl (rp_move rfl rfl) ?_
  (first | (refine AL.rp rfl rfl (rp_len_map Tryd.underlying9 rfl rfl (by assumption)) ?_) | (refine AL.rp rfl rfl (rp_len_own Tryd.underlying9 rfl rfl) ?_) | (refine AL.rp rfl rfl (rp_len_sl Tryd.underlying9 rfl rfl) ?_) | (refine AL.rp rfl rfl (rp_len_nil Tryd.underlying9 rfl rfl) ?_) | (refine AL.rp rfl rfl (rp_len_str Tryd.underlying9 rfl rfl) ?_))
  (first | (refine AL.rp rfl rfl (rp_gtrT rfl rfl rfl (by first | assumption | omega | (dsimp only; omega))) ?_) | (refine AL.rp rfl rfl (rp_gtrF rfl rfl rfl (by first | assumption | omega | (dsimp only; omega))) ?_) | (refine AL.rp rfl rfl (rp_gtr rfl rfl rfl) ?_))
  refine AL.nil ?_
  try simp only [thenS, S.put]
  refine AW.condT rfl ?_
  refine AW.seq ?_
  refine AW.region ?_
  (first | (refine AL.st rfl (st_store_map2 inf28 rfl rfl rfl rfl rfl rfl rfl rfl (by first | assumption | omega)) ?_) | (refine AL.st rfl (st_store inf28 rfl rfl rfl rfl rfl rfl rfl (by first | decide | (simp; done)) rfl) ?_))
  (first | (refine AL.st rfl (st_store_map2 inf3 rfl rfl rfl rfl rfl rfl rfl rfl (by first | assumption | omega)) ?_) | (refine AL.st rfl (st_store inf3 rfl rfl rfl rfl rfl rfl rfl (by first | decide | (simp; done)) rfl) ?_))
  (first | (refine AL.st rfl (st_store_map2 inf23 rfl rfl rfl rfl rfl rfl rfl rfl (by first | assumption | omega)) ?_) | (refine AL.st rfl (st_store inf23 rfl rfl rfl rfl rfl rfl rfl (by first | decide | (simp; done)) rfl) ?_))
  refine AL.nil ?_
  try simp only [thenS, S.put, S.newObj, setL, V.cs, List.length_cons, List.length_nil, List.take_succ_cons, List.take_zero, List.drop_succ_cons, List.drop_zero, List.drop_nil, List.nil_append, List.cons_append, List.append_nil, Nat.zero_add, Nat.reduceAdd, List.map_cons, List.map_nil, List.set_cons_zero, List.set_cons_succ]
  refine AW.ret ?_
  exact ⟨[_, _, _], ⟨⟨2, 0, _, _, rfl, rfl, rfl, Tryd.underlying28, .inl ⟨rfl, rfl⟩⟩, ⟨3, 0, _, _, rfl, rfl, rfl, Tryd.underlying3, .inl ⟨rfl, rfl⟩⟩, ⟨4, 0, _, _, rfl, rfl, rfl, Tryd.underlying23, .inl ⟨rfl, rfl⟩⟩, trivial⟩, rfl, by simp [tupOf, V.pure, V.has, V.hasL, nlV]⟩
 ·have hRs : scn (lns text) [] = R := by rw [← hR]; unfold rdT; rw [if_neg hbig]
  refine AW.seq ?_
  refine AW.region ?_
  refine AL.rp rfl rfl (rp_move rfl rfl) ?_
  (first | (refine AL.rp rfl rfl (rp_len_map Tryd.underlying9 rfl rfl (by assumption)) ?_) | (refine AL.rp rfl rfl (rp_len_own Tryd.underlying9 rfl rfl) ?_) | (refine AL.rp rfl rfl (rp_len_sl Tryd.underlying9 rfl rfl) ?_) | (refine AL.rp rfl rfl (rp_len_nil Tryd.underlying9 rfl rfl) ?_) | (refine AL.rp rfl rfl (rp_len_str Tryd.underlying9 rfl rfl) ?_))
  (first | (refine AL.rp rfl rfl (rp_gtrT rfl rfl rfl (by first | assumption | omega | (dsimp only; omega))) ?_) | (refine AL.rp rfl rfl (rp_gtrF rfl rfl rfl (by first | assumption | omega | (dsimp only; omega))) ?_) | (refine AL.rp rfl rfl (rp_gtr rfl rfl rfl) ?_))
  refine AL.nil ?_
  try simp only [thenS, S.put]
  refine AW.condF rfl ?_
  refine AW.skip ?_
  try simp only [thenS]
  refine AX.early ?_
  refine AW.region ?_
  refine AL.sm rfl (sm_alloc (l := [.d (.p (.slice none 0 0))]) 791 inf28 rfl (by first | rfl | simp [S.clean, S.put, S.newObj, S.forget, V.has, V.hasL, junkIf, setL, V.cs, hasL_i, hasL_vd, hasL_vdt, hasL_d, hasL_b, hasL_s, hasL_n, hasL_rep, hasL_flat, hasL_append, -List.map_set]) rfl rfl) ?_
  refine AL.nil ?_
  try simp only [thenS, S.put, S.newObj, setL, V.cs, List.length_cons, List.length_nil, List.take_succ_cons, List.take_zero, List.drop_succ_cons, List.drop_zero, List.drop_nil, List.nil_append, List.cons_append, List.append_nil, Nat.zero_add, Nat.reduceAdd, List.map_cons, List.map_nil, List.set_cons_zero, List.set_cons_succ]
  refine AX.lines (n := 42) [2, 3, 4, 5] [.ref 2 0, .ref 3 0, .ref 4 0, .ref 791 0] (scJ R) (scX R) text ?_ rfl (by decide) rfl ?_ ?_ ?_ ?_
  ·refine AW.adoptH 791 0 792 5 60 rfl rfl rfl (by simp [S.clean, V.has, V.hasL, V.cs, setL]) ?_
   refine AW.region ?_
   refine AL.rp rfl rfl (rp_move rfl rfl) ?_
   refine AL.inline [0, 2, 3, 4, 5] (ts := [_, _, _, _, _]) (ars := [_]) rfl rfl ⟨Tryd.func16, rfl, rfl, rfl, rfl⟩ rfl rfl rfl (by simp) rfl fun kx => ?_
   try simp only [thenS, S.put, enum, List.nil_append, List.cons_append, List.append_nil, Nat.zero_add, Nat.reduceAdd]
   refine AW.seq ?_
   refine AW.region ?_
   refine AL.sm rfl (sm_box 790 rfl rfl rfl (by first | rfl | simp [S.clean, S.put, S.newObj, S.forget, V.has, V.hasL, junkIf, setL, V.cs, hasL_i, hasL_vd, hasL_vdt, hasL_d, hasL_b, hasL_s, hasL_n, hasL_rep, hasL_flat, hasL_append, -List.map_set]) rfl) ?_
   refine AL.rp rfl rfl (rp_assign rfl rfl) ?_
   refine AL.nil ?_
   try simp only [thenS, S.put, S.newObj, setL, V.cs, List.length_cons, List.length_nil, List.take_succ_cons, List.take_zero, List.drop_succ_cons, List.drop_zero, List.drop_nil, List.nil_append, List.cons_append, List.append_nil, Nat.zero_add, Nat.reduceAdd, List.map_cons, List.map_nil, List.set_cons_zero, List.set_cons_succ]
   refine AW.seq ?_
   refine AW.region ?_
   refine AL.rp rfl rfl (rp_func (vs := [_]) rfl rfl) ?_
   refine AL.rp rfl rfl (rp_assign rfl rfl) ?_
   refine AL.nil ?_
   try simp only [thenS, S.put]
   refine AW.ret ?_
   try simp only [thenS, inBlockS, ↓reduceIte, Nat.reduceEqDiff]
   refine ⟨[_], ⟨rfl, trivial⟩, ?_⟩
   try simp only [S.put, tupOf, List.zip_cons_cons, List.zip_nil_left, List.drop_succ_cons, List.drop_zero, List.length_cons, List.length_nil, Nat.zero_add, Nat.reduceAdd]
   refine AL.nil ?_
   try simp only [thenS, S.put]
   exact ⟨⟨42, [(2, .ref 2 0), (3, .ref 3 0), (4, .ref 4 0), (5, .ref 791 0), (14, .fn 38 [.ref 790 0])], (790, lnRow text) :: scH [] true, []⟩, (Less.of rfl (by repeat (first | exact trivial | refine ⟨⟨_, rfl, Wk.refl _⟩, ?_⟩ | refine ⟨⟨_, rfl, Wk.nil _ _⟩, ?_⟩ | refine ⟨⟨_, rfl, Wk.junk _⟩, ?_⟩)) (by repeat (first | exact trivial | refine ⟨rfl, ?_⟩)) rfl), _, _, rfl, rfl, rfl, by omega, [], by simp, hRs, rfl⟩
  ·exact fun rem H h => scJ_ok h
  ·rintro lb db kx rem H r0 hne hasg hbd ⟨hl, acc, hacc, hS, rfl⟩ hne0
   obtain ⟨z, hz⟩ : ∃ z, acc.isEmpty = z := ⟨_, rfl⟩
   simp only [hz]
   unfold scH stRow
   simp only [List.zip_cons_cons, List.zip_nil_left]
   have hln := congrArg List.length (ln_app rem)
   have hl1 : (ln1 rem).length ≤ 2000 := by simp at hln; omega
   have hlt := ln2_lt rem hne0
   rw [lns_cons hne0] at hS
   obtain ⟨ln, hlne⟩ : ∃ x, ln1 rem = x := ⟨_, rfl⟩
   simp only [hlne] at hl1 hS ⊢
   clear hasg hbd hln
   by_cases hf : acc.length = 30
   ·rw [scn_full hf] at hS
    refine AF.region (fun _ h => h) rfl ?_
    refine AL.rp rfl rfl (rp_assign rfl rfl) ?_
    refine AL.nil ?_
    try simp only [thenS, S.put]
    refine ⟨_, rfl, ⟨rfl, by simp [V.bksL, V.bks, stpC_bk], bk_K hne rfl⟩, ?_⟩
    refine AF.block ?_
    refine AF.seq ?_
    refine AF.seq ?_
    refine AF.region (fun _ h => h) rfl ?_
    (first | (refine AL.rd rfl rfl (rd_load_ref Tryd.underlying28 rfl rfl rfl rfl rfl rfl) ?_) | (refine AL.rd rfl rfl (rd_load_ad Tryd.underlying28 rfl rfl rfl rfl) ?_) | (refine AL.rd rfl rfl (rd_load_map Tryd.underlying28 rfl rfl rfl rfl rfl rfl (by assumption)) ?_) | (refine AL.rd rfl rfl (rd_load_flat Tryd.underlying28 rfl rfl rfl rfl rfl rfl (fun _ => rfl) (by assumption) rfl) ?_))
    (first | (refine AL.rp rfl rfl (rp_len_map Tryd.underlying28 rfl rfl (by assumption)) ?_) | (refine AL.rp rfl rfl (rp_len_own Tryd.underlying28 rfl rfl) ?_) | (refine AL.rp rfl rfl (rp_len_sl Tryd.underlying28 rfl rfl) ?_) | (refine AL.rp rfl rfl (rp_len_nil Tryd.underlying28 rfl rfl) ?_) | (refine AL.rp rfl rfl (rp_len_str Tryd.underlying28 rfl rfl) ?_))
    (first | (refine AL.rp rfl rfl (rp_eqlT rfl rfl rfl (by first | assumption | omega | (dsimp only; omega))) ?_) | (refine AL.rp rfl rfl (rp_eqlF rfl rfl rfl (by first | assumption | omega | (dsimp only; omega))) ?_) | (refine AL.rp rfl rfl (rp_eql rfl rfl rfl) ?_))
    refine AL.nil ?_
    try simp only [thenS, S.put]
    refine AF.condT rfl ?_
    refine AF.seq ?_
    refine AF.drawT (N := ?N1) (l := #[false, false, false, false, false]) 5 (by kernel_rfl) rfl rfl ?_ ?_
    rotate_left
    refine AN.br2 (i := 0) (j := 2) (by kernel_rfl) ?_ ?_
    ·refine BR.mk (l' := #[true, false, false, false, false]) rfl rfl rfl ?_
     (first | (refine ST.rd rfl (rd_load_ref Tryd.underlying28 rfl rfl rfl rfl rfl rfl) ?_) | (refine ST.rd rfl (rd_load_ad Tryd.underlying28 rfl rfl rfl rfl) ?_) | (refine ST.rd rfl (rd_load_map Tryd.underlying28 rfl rfl rfl rfl rfl rfl (by assumption)) ?_) | (refine ST.rd rfl (rd_load_flat Tryd.underlying28 rfl rfl rfl rfl rfl rfl (fun _ => rfl) (by assumption) rfl) ?_))
     (first | (refine AN.rp (i := 1) (l' := #[true, true, false, false, false]) rfl rfl rfl (fun _ _ h => h) (by kernel_rfl) rfl (rp_len_map Tryd.underlying28 rfl rfl (by assumption)) ?_) | (refine AN.rp (i := 1) (l' := #[true, true, false, false, false]) rfl rfl rfl (fun _ _ h => h) (by kernel_rfl) rfl (rp_len_own Tryd.underlying28 rfl rfl) ?_) | (refine AN.rp (i := 1) (l' := #[true, true, false, false, false]) rfl rfl rfl (fun _ _ h => h) (by kernel_rfl) rfl (rp_len_sl Tryd.underlying28 rfl rfl) ?_) | (refine AN.rp (i := 1) (l' := #[true, true, false, false, false]) rfl rfl rfl (fun _ _ h => h) (by kernel_rfl) rfl (rp_len_nil Tryd.underlying28 rfl rfl) ?_) | (refine AN.rp (i := 1) (l' := #[true, true, false, false, false]) rfl rfl rfl (fun _ _ h => h) (by kernel_rfl) rfl (rp_len_str Tryd.underlying28 rfl rfl) ?_))
     refine AN.br1 (i := 2) (by kernel_rfl) ?_
     refine BR.mk (l' := #[true, true, true, false, false]) rfl rfl rfl ?_
     (first | (refine ST.st (st_store_map2 inf28 rfl rfl rfl rfl rfl rfl rfl rfl (by first | assumption | omega)) ?_) | (refine ST.st (st_store inf28 rfl rfl rfl rfl rfl rfl rfl (by first | decide | (simp; done)) rfl) ?_))
     refine AN.br1 (i := 3) (by kernel_rfl) ?_
     refine BR.mk (l' := #[true, true, true, true, false]) rfl rfl rfl ?_
     (first | (refine ST.st (st_store_map2 inf3 rfl rfl rfl rfl rfl rfl rfl rfl (by first | assumption | omega)) ?_) | (refine ST.st (st_store inf3 rfl rfl rfl rfl rfl rfl rfl (by first | decide | (simp; done)) rfl) ?_))
     refine AN.br1 (i := 4) (by kernel_rfl) ?_
     refine BR.mk (l' := #[true, true, true, true, true]) rfl rfl rfl ?_
     (first | (refine ST.st (st_store_map2 inf23 rfl rfl rfl rfl rfl rfl rfl rfl (by first | assumption | omega)) ?_) | (refine ST.st (st_store inf23 rfl rfl rfl rfl rfl rfl rfl (by first | decide | (simp; done)) rfl) ?_))
     refine AN.nil (by kernel_rfl) ?_
     show Less _ _
     exact Less.dd _
    ·refine BR.mk (l' := #[false, false, true, false, false]) rfl rfl rfl ?_
     (first | (refine ST.st (st_store_map2 inf28 rfl rfl rfl rfl rfl rfl rfl rfl (by first | assumption | omega)) ?_) | (refine ST.st (st_store inf28 rfl rfl rfl rfl rfl rfl rfl (by first | decide | (simp; done)) rfl) ?_))
     refine AN.br1 (i := 0) (by kernel_rfl) ?_
     refine BR.mk (l' := #[true, false, true, false, false]) rfl rfl rfl ?_
     (first | (refine ST.rd rfl (rd_load_ref Tryd.underlying28 rfl rfl rfl rfl rfl rfl) ?_) | (refine ST.rd rfl (rd_load_ad Tryd.underlying28 rfl rfl rfl rfl) ?_) | (refine ST.rd rfl (rd_load_map Tryd.underlying28 rfl rfl rfl rfl rfl rfl (by assumption)) ?_) | (refine ST.rd rfl (rd_load_flat Tryd.underlying28 rfl rfl rfl rfl rfl rfl (fun _ => rfl) (by assumption) rfl) ?_))
     (first | (refine AN.rp (i := 1) (l' := #[true, true, true, false, false]) rfl rfl rfl (fun _ _ h => h) (by kernel_rfl) rfl (rp_len_map Tryd.underlying28 rfl rfl (by assumption)) ?_) | (refine AN.rp (i := 1) (l' := #[true, true, true, false, false]) rfl rfl rfl (fun _ _ h => h) (by kernel_rfl) rfl (rp_len_own Tryd.underlying28 rfl rfl) ?_) | (refine AN.rp (i := 1) (l' := #[true, true, true, false, false]) rfl rfl rfl (fun _ _ h => h) (by kernel_rfl) rfl (rp_len_sl Tryd.underlying28 rfl rfl) ?_) | (refine AN.rp (i := 1) (l' := #[true, true, true, false, false]) rfl rfl rfl (fun _ _ h => h) (by kernel_rfl) rfl (rp_len_nil Tryd.underlying28 rfl rfl) ?_) | (refine AN.rp (i := 1) (l' := #[true, true, true, false, false]) rfl rfl rfl (fun _ _ h => h) (by kernel_rfl) rfl (rp_len_str Tryd.underlying28 rfl rfl) ?_))
     refine AN.br1 (i := 3) (by kernel_rfl) ?_
     refine BR.mk (l' := #[true, true, true, true, false]) rfl rfl rfl ?_
     (first | (refine ST.st (st_store_map2 inf3 rfl rfl rfl rfl rfl rfl rfl rfl (by first | assumption | omega)) ?_) | (refine ST.st (st_store inf3 rfl rfl rfl rfl rfl rfl rfl (by first | decide | (simp; done)) rfl) ?_))
     refine AN.br1 (i := 4) (by kernel_rfl) ?_
     refine BR.mk (l' := #[true, true, true, true, true]) rfl rfl rfl ?_
     (first | (refine ST.st (st_store_map2 inf23 rfl rfl rfl rfl rfl rfl rfl rfl (by first | assumption | omega)) ?_) | (refine ST.st (st_store inf23 rfl rfl rfl rfl rfl rfl rfl (by first | decide | (simp; done)) rfl) ?_))
     refine AN.nil (by kernel_rfl) ?_
     show Less _ _
     (try simp only [S.put, S.newObj, setL, V.cs, List.length_cons, List.length_nil, List.take_succ_cons, List.take_zero, List.drop_succ_cons, List.drop_zero, List.drop_nil, List.nil_append, List.cons_append, List.append_nil, Nat.zero_add, Nat.reduceAdd, List.map_cons, List.map_nil, List.set_cons_zero, List.set_cons_succ])
     try simp only [S.dd, ddL, List.contains_cons, List.contains_nil, Nat.reduceBEq, beq_self_eq_true, Bool.or_false, Bool.or_true, Bool.false_or, Bool.true_or, Bool.or_self, if_true, if_false, Bool.false_eq_true, ↓reduceIte]
     exact (Less.of rfl (by repeat (first | exact trivial | refine ⟨⟨_, rfl, Wk.refl _⟩, ?_⟩)) (by repeat (first | exact trivial | refine ⟨rfl, ?_⟩)) rfl)
    (try simp only [S.put, S.newObj, setL, V.cs, List.length_cons, List.length_nil, List.take_succ_cons, List.take_zero, List.drop_succ_cons, List.drop_zero, List.drop_nil, List.nil_append, List.cons_append, List.append_nil, Nat.zero_add, Nat.reduceAdd, List.map_cons, List.map_nil, List.set_cons_zero, List.set_cons_succ])
    try simp only [S.dd, ddL, List.contains_cons, List.contains_nil, Nat.reduceBEq, beq_self_eq_true, Bool.or_false, Bool.or_true, Bool.false_or, Bool.true_or, Bool.or_self, if_true, if_false, Bool.false_eq_true, ↓reduceIte]
    try simp only [thenS, S.put, S.newObj, setL, V.cs, List.length_cons, List.length_nil, List.take_succ_cons, List.take_zero, List.drop_succ_cons, List.drop_zero, List.drop_nil, List.nil_append, List.cons_append, List.append_nil, Nat.zero_add, Nat.reduceAdd, List.map_cons, List.map_nil, List.set_cons_zero, List.set_cons_succ]
    refine AF.ret ?_
    simp only [thenS, inBlockS, QB, QB1]
    refine ⟨⟨42, [], (790, lnRow (ln2 rem)) :: scR .nil (acc.length : Int) 5, lnLoop lb w0.heap.size r0 .busy none :: ylV lb :: .ref 790 0 :: lnDf db w0.heap.size :: [.ref 2 0, .ref 3 0, .ref 4 0, .ref 791 0]⟩, ?_, rfl, rfl, _, rfl, rfl, _, _, hS.symm, by decide, rfl⟩
    exact (Less.of rfl (by repeat (first | exact trivial | refine ⟨⟨_, rfl, Wk.refl _⟩, ?_⟩ | refine ⟨⟨_, rfl, Wk.nil _ _⟩, ?_⟩ | refine ⟨⟨_, rfl, Wk.junk _⟩, ?_⟩)) (by repeat (first | exact trivial | refine ⟨rfl, ?_⟩)) rfl)
   ·have hso : FnP preS Tryd.prog 25 [.s (bs ln)] (fun v => v = .agg ((stpD (spP ln)).map V.d)) := am_scStep ln (by omega)
    have hsh := (am_shown (spP ln)).pre (Pre' := preS) (fun w h => h.1)
    have hok1 : okP ln ↔ (stE (spP ln) = 0 ∧ stS (spP ln) = bs ln) := Iff.rfl
    have hacc1 : acc.length < 30 := by omega
    obtain ⟨⟨sk, st, sa, sb, sn⟩, hst⟩ : ∃ x, spP ln = x := ⟨_, rfl⟩
    rw [hst] at hso hsh hok1
    obtain ⟨S1, hS1⟩ : ∃ x, stS ⟨sk, st, sa, sb, sn⟩ = x := ⟨_, rfl⟩
    obtain ⟨E1, hE1⟩ : ∃ x, stE ⟨sk, st, sa, sb, sn⟩ = x := ⟨_, rfl⟩
    rw [hS1, hE1] at hsh hok1
    simp only [stpD, List.map_cons, List.map_nil] at hso hsh
    clear hS1 hE1
    refine AF.region (fun _ h => h) rfl ?_
    refine AL.rp rfl rfl (rp_assign rfl rfl) ?_
    refine AL.nil ?_
    try simp only [thenS, S.put]
    refine ⟨_, rfl, ⟨rfl, by simp [V.bksL, V.bks, stpC_bk], bk_K hne rfl⟩, ?_⟩
    by_cases hok : okP ln
    ·rw [scn_ok (by omega) hok, hst] at hS
     obtain ⟨rfl, rfl⟩ := hok1.1 hok
     clear hok1 hst
     have hrr : bs ln = bs ln := rfl
     refine AF.block ?_
     refine AF.seq ?_
     refine AF.seq ?_
     refine AF.region (fun _ h => h) rfl ?_
     (first | (refine AL.rd rfl rfl (rd_load_ref Tryd.underlying28 rfl rfl rfl rfl rfl rfl) ?_) | (refine AL.rd rfl rfl (rd_load_ad Tryd.underlying28 rfl rfl rfl rfl) ?_) | (refine AL.rd rfl rfl (rd_load_map Tryd.underlying28 rfl rfl rfl rfl rfl rfl (by assumption)) ?_) | (refine AL.rd rfl rfl (rd_load_flat Tryd.underlying28 rfl rfl rfl rfl rfl rfl (fun _ => rfl) (by assumption) rfl) ?_))
     (first | (refine AL.rp rfl rfl (rp_len_map Tryd.underlying28 rfl rfl (by assumption)) ?_) | (refine AL.rp rfl rfl (rp_len_own Tryd.underlying28 rfl rfl) ?_) | (refine AL.rp rfl rfl (rp_len_sl Tryd.underlying28 rfl rfl) ?_) | (refine AL.rp rfl rfl (rp_len_nil Tryd.underlying28 rfl rfl) ?_) | (refine AL.rp rfl rfl (rp_len_str Tryd.underlying28 rfl rfl) ?_))
     (first | (refine AL.rp rfl rfl (rp_eqlT rfl rfl rfl (by first | assumption | omega | (dsimp only; omega))) ?_) | (refine AL.rp rfl rfl (rp_eqlF rfl rfl rfl (by first | assumption | omega | (dsimp only; omega))) ?_) | (refine AL.rp rfl rfl (rp_eql rfl rfl rfl) ?_))
     refine AL.nil ?_
     try simp only [thenS, S.put]
     refine AF.condF rfl ?_
     refine AF.skip ?_
     try simp only [thenS]
     refine AF.seq ?_
     refine AF.region (fun _ h => h) rfl ?_
     refine AL.rp rfl rfl (rp_move rfl rfl) ?_
     refine AL.call (post := ?pc1) rfl (sm_callP (args := [_]) (preS_kept) (by assumption) ?hc1 ⟨Tryd.func25, rfl, rfl, rfl, rfl⟩ rfl rfl rfl rfl) ?_
     case hc1 => exact hso
     rintro _ rfl -
     try dsimp only
     refine AL.sm rfl (sm_alloc (l := [.d (.p (.int .i64 0)), .d (.p (.int .i64 0)), .d (.p (.int .i64 0)), .d (.p (.int .i64 0)), .d (.p (.string ⟨#[]⟩))]) 7 inf60 rfl (by first | rfl | simp [S.clean, S.put, S.newObj, S.forget, V.has, V.hasL, junkIf, setL, V.cs, hasL_i, hasL_vd, hasL_vdt, hasL_d, hasL_b, hasL_s, hasL_n, hasL_rep, hasL_flat, hasL_append, -List.map_set]) rfl rfl) ?_
     refine AL.st rfl (st_store_any inf60 rfl rfl rfl rfl rfl rfl rfl rfl (by first | decide | (simp; done) | (simp; omega)) rfl) ?_
     refine AL.nil ?_
     try simp only [thenS, S.put, S.newObj, setL, V.cs, List.length_cons, List.length_nil, List.take_succ_cons, List.take_zero, List.drop_succ_cons, List.drop_zero, List.drop_nil, List.nil_append, List.cons_append, List.append_nil, Nat.zero_add, Nat.reduceAdd, List.map_cons, List.map_nil, List.set_cons_zero, List.set_cons_succ]
     refine AF.seq ?_
     refine AF.seq ?_
     refine AF.region (fun _ h => h) rfl ?_
     (first | (refine AL.rd rfl rfl (rd_loads_ref Tryd.underlying60 rfl inf60 rfl rfl rfl rfl rfl rfl) ?_) | (refine AL.rd rfl rfl (rd_loads_ad Tryd.underlying60 rfl inf60 rfl rfl rfl rfl) ?_))
     refine AL.call (post := ?pc2) rfl (sm_callP (args := [_]) (preS_kept) (by assumption) ?hc2 ⟨Tryd.func26, rfl, rfl, rfl, rfl⟩ rfl rfl rfl rfl) ?_
     case hc2 => exact hsh
     rintro _ rfl -
     try dsimp only
     refine AL.rp rfl rfl (rp_move rfl rfl) ?_
     refine AL.rp rfl rfl (rp_extract rfl rfl rfl) ?_
     refine AL.rp rfl rfl (rp_extract rfl rfl rfl) ?_
     refine AL.rp rfl rfl (rp_assign rfl rfl) ?_
     refine AL.rp rfl rfl (rp_assign rfl rfl) ?_
     refine AL.nil ?_
     try simp only [thenS, S.put, S.newObj, setL, V.cs, List.length_cons, List.length_nil, List.take_succ_cons, List.take_zero, List.drop_succ_cons, List.drop_zero, List.drop_nil, List.nil_append, List.cons_append, List.append_nil, Nat.zero_add, Nat.reduceAdd, List.map_cons, List.map_nil, List.set_cons_zero, List.set_cons_succ]
     refine AF.seq ?_
     refine AF.region (fun _ h => h) rfl ?_
     refine AL.rp rfl rfl (rp_move rfl rfl) ?_
     (first | (refine AL.rp rfl rfl (rp_neqT rfl rfl rfl (by first | assumption | omega | (dsimp only; omega))) ?_) | (refine AL.rp rfl rfl (rp_neqF rfl rfl rfl (by first | assumption | omega | (dsimp only; omega))) ?_) | (refine AL.rp rfl rfl (rp_neq rfl rfl rfl) ?_))
     refine AL.rp rfl rfl (rp_move rfl rfl) ?_
     (first | (refine AL.noV rfl rfl rfl rfl ?_) | (refine AL.noU rfl ⟨_, rfl, rfl⟩ rfl ?_) | (refine AL.rpy rfl rfl rfl (rp_move rfl rfl) ?_))
     (first | (refine AL.noV rfl rfl rfl rfl ?_) | (refine AL.noU rfl ⟨_, rfl, rfl⟩ rfl ?_) | (refine AL.rpy rfl rfl rfl (rp_move rfl rfl) ?_))
     (first | (refine AL.noV rfl rfl rfl rfl ?_) | (refine AL.noU rfl ⟨_, rfl, rfl⟩ rfl ?_) | (refine AL.rpy rfl rfl rfl (rp_neqsF rfl rfl rfl (by assumption)) ?_) | (refine AL.rpy rfl rfl rfl (rp_neqsT rfl rfl rfl (by assumption)) ?_) | (refine AL.rpy rfl rfl rfl (rp_neqs rfl rfl rfl) ?_))
     refine AL.rp rfl rfl (rp_pick rfl rfl rfl) ?_
     refine AL.nil ?_
     try simp only [thenS, S.put]
     refine AF.condF rfl ?_
     refine AF.skip ?_
     try simp only [thenS]
     refine AF.region (fun _ h => h) rfl ?_
     (first | (refine AL.rd rfl rfl (rd_load_ref Tryd.underlying28 rfl rfl rfl rfl rfl rfl) ?_) | (refine AL.rd rfl rfl (rd_load_ad Tryd.underlying28 rfl rfl rfl rfl) ?_) | (refine AL.rd rfl rfl (rd_load_map Tryd.underlying28 rfl rfl rfl rfl rfl rfl (by assumption)) ?_) | (refine AL.rd rfl rfl (rd_load_flat Tryd.underlying28 rfl rfl rfl rfl rfl rfl (fun _ => rfl) (by assumption) rfl) ?_))
     (first | (refine AL.rd rfl rfl (rd_loads_ref Tryd.underlying60 rfl inf60 rfl rfl rfl rfl rfl rfl) ?_) | (refine AL.rd rfl rfl (rd_loads_ad Tryd.underlying60 rfl inf60 rfl rfl rfl rfl) ?_))
     refine AL.sm rfl (sm_slice (vs := [(0, _)]) (zs := [.d (.p (.int .i64 0)), .d (.p (.int .i64 0)), .d (.p (.int .i64 0)), .d (.p (.int .i64 0)), .d (.p (.string ⟨#[]⟩))]) 39 Tryd.underlying28 inf60 rfl rfl (by decide) (by decide) (by decide) rfl rfl rfl rfl (by first | rfl | simp [S.clean, S.put, S.newObj, S.forget, V.has, V.hasL, junkIf, setL, V.cs, hasL_i, hasL_vd, hasL_vdt, hasL_d, hasL_b, hasL_s, hasL_n, hasL_rep, hasL_flat, hasL_append, -List.map_set]) (by first | rfl | simp [S.clean, S.put, S.newObj, S.forget, V.has, V.hasL, junkIf, setL, V.cs, hasL_i, hasL_vd, hasL_vdt, hasL_d, hasL_b, hasL_s, hasL_n, hasL_rep, hasL_flat, hasL_append, -List.map_set]) rfl) ?_
     refine AL.st rfl (st_appendF Tryd.underlying28 inf60 rfl (by decide) rfl rfl rfl rfl rfl rfl (by first | assumption | rfl | (simp; done)) (by first | rfl | simp [S.clean, S.put, S.newObj, S.forget, V.has, V.hasL, junkIf, setL, V.cs, hasL_i, hasL_vd, hasL_vdt, hasL_d, hasL_b, hasL_s, hasL_n, hasL_rep, hasL_flat, hasL_append, -List.map_set]) rfl rfl rfl rfl rfl (by first | rfl | simp [S.clean, S.put, S.newObj, S.forget, V.has, V.hasL, junkIf, setL, V.cs, hasL_i, hasL_vd, hasL_vdt, hasL_d, hasL_b, hasL_s, hasL_n, hasL_rep, hasL_flat, hasL_append, -List.map_set]) rfl (by decide) (by omega) (by omega) rfl) ?_
     simp only [S.forget, S.put, S.newObj, junkIf, V.has, V.hasL, hasL_i, hasL_b, hasL_s, hasL_d, hasL_n, hasL_rep, hasL_flat, hasL_append, List.map_cons, List.map_nil, List.filter_cons, List.filter_nil, Nat.reduceBNe, Nat.reduceBEq, eq_self, bne_self_eq_false,  Bool.not_true, Bool.not_false, Bool.or_false, Bool.or_true, Bool.false_or, Bool.true_or, if_true, if_false, Bool.false_eq_true, ite_true, ite_false, ↓reduceIte, beq_self_eq_true, Nat.reduceEqDiff]
     (first | (refine AL.st rfl (st_store_map2 inf28 rfl rfl rfl rfl rfl rfl rfl rfl (by first | assumption | omega)) ?_) | (refine AL.st rfl (st_store inf28 rfl rfl rfl rfl rfl rfl rfl (by first | decide | (simp; done)) rfl) ?_))
     refine AL.nil ?_
     try simp only [thenS, S.put, S.newObj, setL, V.cs, List.length_cons, List.length_nil, List.take_succ_cons, List.take_zero, List.drop_succ_cons, List.drop_zero, List.drop_nil, List.nil_append, List.cons_append, List.append_nil, Nat.zero_add, Nat.reduceAdd, List.map_cons, List.map_nil, List.set_cons_zero, List.set_cons_succ]
     simp only [inBlockS, QB, QB1]
     refine ⟨⟨42, [], (790, lnRow (ln2 rem)) :: scH (acc ++ [⟨sk, st, sa, sb, sn⟩]) (acc ++ [(⟨sk, st, sa, sb, sn⟩ : Stp)]).isEmpty, lnLoop lb w0.heap.size r0 .busy none :: ylV lb :: .ref 790 0 :: lnDf db w0.heap.size :: [.ref 2 0, .ref 3 0, .ref 4 0, .ref 791 0]⟩, ?_, rfl, rfl, _, rfl, ?_, ?_⟩
     ·rw [scH_snoc]
      exact (Less.of rfl (by repeat (first | exact trivial | refine ⟨⟨_, rfl, Wk.refl _⟩, ?_⟩ | refine ⟨⟨_, rfl, Wk.nil _ _⟩, ?_⟩ | refine ⟨⟨_, rfl, Wk.junk _⟩, ?_⟩)) (by repeat (first | exact trivial | refine ⟨rfl, ?_⟩)) rfl)
     ·have : V.bksL (stpC acc ++ [.i sk, .i st, .i sa, .i sb, .s sn]) = false := by
       rw [V.bksL_false]
       intro d hd
       rcases List.mem_append.1 hd with h | h
       ·exact V.bksL_false.1 (stpC_bk acc) d h
       ·simp only [List.mem_cons, List.not_mem_nil, or_false] at h
        rcases h with rfl | rfl | rfl | rfl | rfl <;> rfl
      rw [scH_snoc]
      simp [V.bksL, V.bks, this]
     ·exact ⟨by omega, _, by simp; omega, hS, rfl⟩
    ·rw [scn_no (by omega) hok] at hS
     by_cases hE : E1 = 0
     ·have hne' : S1.data.toList ≠ (bs ln).data.toList := fun h => hok (hok1.2 ⟨hE, bs_ext h⟩)
      subst hE
      clear hok1 hst
      refine AF.block ?_
      refine AF.seq ?_
      refine AF.seq ?_
      refine AF.region (fun _ h => h) rfl ?_
      (first | (refine AL.rd rfl rfl (rd_load_ref Tryd.underlying28 rfl rfl rfl rfl rfl rfl) ?_) | (refine AL.rd rfl rfl (rd_load_ad Tryd.underlying28 rfl rfl rfl rfl) ?_) | (refine AL.rd rfl rfl (rd_load_map Tryd.underlying28 rfl rfl rfl rfl rfl rfl (by assumption)) ?_) | (refine AL.rd rfl rfl (rd_load_flat Tryd.underlying28 rfl rfl rfl rfl rfl rfl (fun _ => rfl) (by assumption) rfl) ?_))
      (first | (refine AL.rp rfl rfl (rp_len_map Tryd.underlying28 rfl rfl (by assumption)) ?_) | (refine AL.rp rfl rfl (rp_len_own Tryd.underlying28 rfl rfl) ?_) | (refine AL.rp rfl rfl (rp_len_sl Tryd.underlying28 rfl rfl) ?_) | (refine AL.rp rfl rfl (rp_len_nil Tryd.underlying28 rfl rfl) ?_) | (refine AL.rp rfl rfl (rp_len_str Tryd.underlying28 rfl rfl) ?_))
      (first | (refine AL.rp rfl rfl (rp_eqlT rfl rfl rfl (by first | assumption | omega | (dsimp only; omega))) ?_) | (refine AL.rp rfl rfl (rp_eqlF rfl rfl rfl (by first | assumption | omega | (dsimp only; omega))) ?_) | (refine AL.rp rfl rfl (rp_eql rfl rfl rfl) ?_))
      refine AL.nil ?_
      try simp only [thenS, S.put]
      refine AF.condF rfl ?_
      refine AF.skip ?_
      try simp only [thenS]
      refine AF.seq ?_
      refine AF.region (fun _ h => h) rfl ?_
      refine AL.rp rfl rfl (rp_move rfl rfl) ?_
      refine AL.call (post := ?pc3) rfl (sm_callP (args := [_]) (preS_kept) (by assumption) ?hc3 ⟨Tryd.func25, rfl, rfl, rfl, rfl⟩ rfl rfl rfl rfl) ?_
      case hc3 => exact hso
      rintro _ rfl -
      try dsimp only
      refine AL.sm rfl (sm_alloc (l := [.d (.p (.int .i64 0)), .d (.p (.int .i64 0)), .d (.p (.int .i64 0)), .d (.p (.int .i64 0)), .d (.p (.string ⟨#[]⟩))]) 7 inf60 rfl (by first | rfl | simp [S.clean, S.put, S.newObj, S.forget, V.has, V.hasL, junkIf, setL, V.cs, hasL_i, hasL_vd, hasL_vdt, hasL_d, hasL_b, hasL_s, hasL_n, hasL_rep, hasL_flat, hasL_append, -List.map_set]) rfl rfl) ?_
      refine AL.st rfl (st_store_any inf60 rfl rfl rfl rfl rfl rfl rfl rfl (by first | decide | (simp; done) | (simp; omega)) rfl) ?_
      refine AL.nil ?_
      try simp only [thenS, S.put, S.newObj, setL, V.cs, List.length_cons, List.length_nil, List.take_succ_cons, List.take_zero, List.drop_succ_cons, List.drop_zero, List.drop_nil, List.nil_append, List.cons_append, List.append_nil, Nat.zero_add, Nat.reduceAdd, List.map_cons, List.map_nil, List.set_cons_zero, List.set_cons_succ]
      refine AF.seq ?_
      refine AF.seq ?_
      refine AF.region (fun _ h => h) rfl ?_
      (first | (refine AL.rd rfl rfl (rd_loads_ref Tryd.underlying60 rfl inf60 rfl rfl rfl rfl rfl rfl) ?_) | (refine AL.rd rfl rfl (rd_loads_ad Tryd.underlying60 rfl inf60 rfl rfl rfl rfl) ?_))
      refine AL.call (post := ?pc4) rfl (sm_callP (args := [_]) (preS_kept) (by assumption) ?hc4 ⟨Tryd.func26, rfl, rfl, rfl, rfl⟩ rfl rfl rfl rfl) ?_
      case hc4 => exact hsh
      rintro _ rfl -
      try dsimp only
      refine AL.rp rfl rfl (rp_move rfl rfl) ?_
      refine AL.rp rfl rfl (rp_extract rfl rfl rfl) ?_
      refine AL.rp rfl rfl (rp_extract rfl rfl rfl) ?_
      refine AL.rp rfl rfl (rp_assign rfl rfl) ?_
      refine AL.rp rfl rfl (rp_assign rfl rfl) ?_
      refine AL.nil ?_
      try simp only [thenS, S.put, S.newObj, setL, V.cs, List.length_cons, List.length_nil, List.take_succ_cons, List.take_zero, List.drop_succ_cons, List.drop_zero, List.drop_nil, List.nil_append, List.cons_append, List.append_nil, Nat.zero_add, Nat.reduceAdd, List.map_cons, List.map_nil, List.set_cons_zero, List.set_cons_succ]
      refine AF.seq ?_
      refine AF.region (fun _ h => h) rfl ?_
      refine AL.rp rfl rfl (rp_move rfl rfl) ?_
      (first | (refine AL.rp rfl rfl (rp_neqT rfl rfl rfl (by first | assumption | omega | (dsimp only; omega))) ?_) | (refine AL.rp rfl rfl (rp_neqF rfl rfl rfl (by first | assumption | omega | (dsimp only; omega))) ?_) | (refine AL.rp rfl rfl (rp_neq rfl rfl rfl) ?_))
      refine AL.rp rfl rfl (rp_move rfl rfl) ?_
      (first | (refine AL.noV rfl rfl rfl rfl ?_) | (refine AL.noU rfl ⟨_, rfl, rfl⟩ rfl ?_) | (refine AL.rpy rfl rfl rfl (rp_move rfl rfl) ?_))
      (first | (refine AL.noV rfl rfl rfl rfl ?_) | (refine AL.noU rfl ⟨_, rfl, rfl⟩ rfl ?_) | (refine AL.rpy rfl rfl rfl (rp_move rfl rfl) ?_))
      (first | (refine AL.noV rfl rfl rfl rfl ?_) | (refine AL.noU rfl ⟨_, rfl, rfl⟩ rfl ?_) | (refine AL.rpy rfl rfl rfl (rp_neqsF rfl rfl rfl (by assumption)) ?_) | (refine AL.rpy rfl rfl rfl (rp_neqsT rfl rfl rfl (by assumption)) ?_) | (refine AL.rpy rfl rfl rfl (rp_neqs rfl rfl rfl) ?_))
      refine AL.rp rfl rfl (rp_pick rfl rfl rfl) ?_
      refine AL.nil ?_
      try simp only [thenS, S.put]
      refine AF.condT rfl ?_
      refine AF.seq ?_
      refine AF.drawT (N := ?N6) (l := #[false, false, false, false, false]) 5 (by kernel_rfl) rfl rfl ?_ ?_
      rotate_left
      refine AN.br2 (i := 0) (j := 2) (by kernel_rfl) ?_ ?_
      ·refine BR.mk (l' := #[true, false, false, false, false]) rfl rfl rfl ?_
       (first | (refine ST.rd rfl (rd_load_ref Tryd.underlying28 rfl rfl rfl rfl rfl rfl) ?_) | (refine ST.rd rfl (rd_load_ad Tryd.underlying28 rfl rfl rfl rfl) ?_) | (refine ST.rd rfl (rd_load_map Tryd.underlying28 rfl rfl rfl rfl rfl rfl (by assumption)) ?_) | (refine ST.rd rfl (rd_load_flat Tryd.underlying28 rfl rfl rfl rfl rfl rfl (fun _ => rfl) (by assumption) rfl) ?_))
       (first | (refine AN.rp (i := 1) (l' := #[true, true, false, false, false]) rfl rfl rfl (fun _ _ h => h) (by kernel_rfl) rfl (rp_len_map Tryd.underlying28 rfl rfl (by assumption)) ?_) | (refine AN.rp (i := 1) (l' := #[true, true, false, false, false]) rfl rfl rfl (fun _ _ h => h) (by kernel_rfl) rfl (rp_len_own Tryd.underlying28 rfl rfl) ?_) | (refine AN.rp (i := 1) (l' := #[true, true, false, false, false]) rfl rfl rfl (fun _ _ h => h) (by kernel_rfl) rfl (rp_len_sl Tryd.underlying28 rfl rfl) ?_) | (refine AN.rp (i := 1) (l' := #[true, true, false, false, false]) rfl rfl rfl (fun _ _ h => h) (by kernel_rfl) rfl (rp_len_nil Tryd.underlying28 rfl rfl) ?_) | (refine AN.rp (i := 1) (l' := #[true, true, false, false, false]) rfl rfl rfl (fun _ _ h => h) (by kernel_rfl) rfl (rp_len_str Tryd.underlying28 rfl rfl) ?_))
       refine AN.br1 (i := 2) (by kernel_rfl) ?_
       refine BR.mk (l' := #[true, true, true, false, false]) rfl rfl rfl ?_
       (first | (refine ST.st (st_store_map2 inf28 rfl rfl rfl rfl rfl rfl rfl rfl (by first | assumption | omega)) ?_) | (refine ST.st (st_store inf28 rfl rfl rfl rfl rfl rfl rfl (by first | decide | (simp; done)) rfl) ?_))
       refine AN.br1 (i := 3) (by kernel_rfl) ?_
       refine BR.mk (l' := #[true, true, true, true, false]) rfl rfl rfl ?_
       (first | (refine ST.st (st_store_map2 inf3 rfl rfl rfl rfl rfl rfl rfl rfl (by first | assumption | omega)) ?_) | (refine ST.st (st_store inf3 rfl rfl rfl rfl rfl rfl rfl (by first | decide | (simp; done)) rfl) ?_))
       refine AN.br1 (i := 4) (by kernel_rfl) ?_
       refine BR.mk (l' := #[true, true, true, true, true]) rfl rfl rfl ?_
       (first | (refine ST.st (st_store_map2 inf23 rfl rfl rfl rfl rfl rfl rfl rfl (by first | assumption | omega)) ?_) | (refine ST.st (st_store inf23 rfl rfl rfl rfl rfl rfl rfl (by first | decide | (simp; done)) rfl) ?_))
       refine AN.nil (by kernel_rfl) ?_
       show Less _ _
       exact Less.dd _
      ·refine BR.mk (l' := #[false, false, true, false, false]) rfl rfl rfl ?_
       (first | (refine ST.st (st_store_map2 inf28 rfl rfl rfl rfl rfl rfl rfl rfl (by first | assumption | omega)) ?_) | (refine ST.st (st_store inf28 rfl rfl rfl rfl rfl rfl rfl (by first | decide | (simp; done)) rfl) ?_))
       refine AN.br1 (i := 0) (by kernel_rfl) ?_
       refine BR.mk (l' := #[true, false, true, false, false]) rfl rfl rfl ?_
       (first | (refine ST.rd rfl (rd_load_ref Tryd.underlying28 rfl rfl rfl rfl rfl rfl) ?_) | (refine ST.rd rfl (rd_load_ad Tryd.underlying28 rfl rfl rfl rfl) ?_) | (refine ST.rd rfl (rd_load_map Tryd.underlying28 rfl rfl rfl rfl rfl rfl (by assumption)) ?_) | (refine ST.rd rfl (rd_load_flat Tryd.underlying28 rfl rfl rfl rfl rfl rfl (fun _ => rfl) (by assumption) rfl) ?_))
       (first | (refine AN.rp (i := 1) (l' := #[true, true, true, false, false]) rfl rfl rfl (fun _ _ h => h) (by kernel_rfl) rfl (rp_len_map Tryd.underlying28 rfl rfl (by assumption)) ?_) | (refine AN.rp (i := 1) (l' := #[true, true, true, false, false]) rfl rfl rfl (fun _ _ h => h) (by kernel_rfl) rfl (rp_len_own Tryd.underlying28 rfl rfl) ?_) | (refine AN.rp (i := 1) (l' := #[true, true, true, false, false]) rfl rfl rfl (fun _ _ h => h) (by kernel_rfl) rfl (rp_len_sl Tryd.underlying28 rfl rfl) ?_) | (refine AN.rp (i := 1) (l' := #[true, true, true, false, false]) rfl rfl rfl (fun _ _ h => h) (by kernel_rfl) rfl (rp_len_nil Tryd.underlying28 rfl rfl) ?_) | (refine AN.rp (i := 1) (l' := #[true, true, true, false, false]) rfl rfl rfl (fun _ _ h => h) (by kernel_rfl) rfl (rp_len_str Tryd.underlying28 rfl rfl) ?_))
       refine AN.br1 (i := 3) (by kernel_rfl) ?_
       refine BR.mk (l' := #[true, true, true, true, false]) rfl rfl rfl ?_
       (first | (refine ST.st (st_store_map2 inf3 rfl rfl rfl rfl rfl rfl rfl rfl (by first | assumption | omega)) ?_) | (refine ST.st (st_store inf3 rfl rfl rfl rfl rfl rfl rfl (by first | decide | (simp; done)) rfl) ?_))
       refine AN.br1 (i := 4) (by kernel_rfl) ?_
       refine BR.mk (l' := #[true, true, true, true, true]) rfl rfl rfl ?_
       (first | (refine ST.st (st_store_map2 inf23 rfl rfl rfl rfl rfl rfl rfl rfl (by first | assumption | omega)) ?_) | (refine ST.st (st_store inf23 rfl rfl rfl rfl rfl rfl rfl (by first | decide | (simp; done)) rfl) ?_))
       refine AN.nil (by kernel_rfl) ?_
       show Less _ _
       (try simp only [S.put, S.newObj, setL, V.cs, List.length_cons, List.length_nil, List.take_succ_cons, List.take_zero, List.drop_succ_cons, List.drop_zero, List.drop_nil, List.nil_append, List.cons_append, List.append_nil, Nat.zero_add, Nat.reduceAdd, List.map_cons, List.map_nil, List.set_cons_zero, List.set_cons_succ])
       try simp only [S.dd, ddL, List.contains_cons, List.contains_nil, Nat.reduceBEq, beq_self_eq_true, Bool.or_false, Bool.or_true, Bool.false_or, Bool.true_or, Bool.or_self, if_true, if_false, Bool.false_eq_true, ↓reduceIte]
       exact (Less.of rfl (by repeat (first | exact trivial | refine ⟨⟨_, rfl, Wk.refl _⟩, ?_⟩)) (by repeat (first | exact trivial | refine ⟨rfl, ?_⟩)) rfl)
      (try simp only [S.put, S.newObj, setL, V.cs, List.length_cons, List.length_nil, List.take_succ_cons, List.take_zero, List.drop_succ_cons, List.drop_zero, List.drop_nil, List.nil_append, List.cons_append, List.append_nil, Nat.zero_add, Nat.reduceAdd, List.map_cons, List.map_nil, List.set_cons_zero, List.set_cons_succ])
      try simp only [S.dd, ddL, List.contains_cons, List.contains_nil, Nat.reduceBEq, beq_self_eq_true, Bool.or_false, Bool.or_true, Bool.false_or, Bool.true_or, Bool.or_self, if_true, if_false, Bool.false_eq_true, ↓reduceIte]
      try simp only [thenS, S.put, S.newObj, setL, V.cs, List.length_cons, List.length_nil, List.take_succ_cons, List.take_zero, List.drop_succ_cons, List.drop_zero, List.drop_nil, List.nil_append, List.cons_append, List.append_nil, Nat.zero_add, Nat.reduceAdd, List.map_cons, List.map_nil, List.set_cons_zero, List.set_cons_succ]
      refine AF.ret ?_
      simp only [thenS, inBlockS, QB, QB1]
      refine ⟨⟨42, [], (790, lnRow (ln2 rem)) :: scR .nil (acc.length : Int) 3, lnLoop lb w0.heap.size r0 .busy none :: ylV lb :: .ref 790 0 :: lnDf db w0.heap.size :: [.ref 2 0, .ref 3 0, .ref 4 0, .ref 791 0]⟩, ?_, rfl, rfl, _, rfl, rfl, _, _, hS.symm, by decide, rfl⟩
      exact (Less.of rfl (by repeat (first | exact trivial | refine ⟨⟨_, rfl, Wk.refl _⟩, ?_⟩ | refine ⟨⟨_, rfl, Wk.nil _ _⟩, ?_⟩ | refine ⟨⟨_, rfl, Wk.junk _⟩, ?_⟩)) (by repeat (first | exact trivial | refine ⟨rfl, ?_⟩)) rfl)
     ·clear hok1 hst
      refine AF.block ?_
      refine AF.seq ?_
      refine AF.seq ?_
      refine AF.region (fun _ h => h) rfl ?_
      (first | (refine AL.rd rfl rfl (rd_load_ref Tryd.underlying28 rfl rfl rfl rfl rfl rfl) ?_) | (refine AL.rd rfl rfl (rd_load_ad Tryd.underlying28 rfl rfl rfl rfl) ?_) | (refine AL.rd rfl rfl (rd_load_map Tryd.underlying28 rfl rfl rfl rfl rfl rfl (by assumption)) ?_) | (refine AL.rd rfl rfl (rd_load_flat Tryd.underlying28 rfl rfl rfl rfl rfl rfl (fun _ => rfl) (by assumption) rfl) ?_))
      (first | (refine AL.rp rfl rfl (rp_len_map Tryd.underlying28 rfl rfl (by assumption)) ?_) | (refine AL.rp rfl rfl (rp_len_own Tryd.underlying28 rfl rfl) ?_) | (refine AL.rp rfl rfl (rp_len_sl Tryd.underlying28 rfl rfl) ?_) | (refine AL.rp rfl rfl (rp_len_nil Tryd.underlying28 rfl rfl) ?_) | (refine AL.rp rfl rfl (rp_len_str Tryd.underlying28 rfl rfl) ?_))
      (first | (refine AL.rp rfl rfl (rp_eqlT rfl rfl rfl (by first | assumption | omega | (dsimp only; omega))) ?_) | (refine AL.rp rfl rfl (rp_eqlF rfl rfl rfl (by first | assumption | omega | (dsimp only; omega))) ?_) | (refine AL.rp rfl rfl (rp_eql rfl rfl rfl) ?_))
      refine AL.nil ?_
      try simp only [thenS, S.put]
      refine AF.condF rfl ?_
      refine AF.skip ?_
      try simp only [thenS]
      refine AF.seq ?_
      refine AF.region (fun _ h => h) rfl ?_
      refine AL.rp rfl rfl (rp_move rfl rfl) ?_
      refine AL.call (post := ?pc6) rfl (sm_callP (args := [_]) (preS_kept) (by assumption) ?hc6 ⟨Tryd.func25, rfl, rfl, rfl, rfl⟩ rfl rfl rfl rfl) ?_
      case hc6 => exact hso
      rintro _ rfl -
      try dsimp only
      refine AL.sm rfl (sm_alloc (l := [.d (.p (.int .i64 0)), .d (.p (.int .i64 0)), .d (.p (.int .i64 0)), .d (.p (.int .i64 0)), .d (.p (.string ⟨#[]⟩))]) 7 inf60 rfl (by first | rfl | simp [S.clean, S.put, S.newObj, S.forget, V.has, V.hasL, junkIf, setL, V.cs, hasL_i, hasL_vd, hasL_vdt, hasL_d, hasL_b, hasL_s, hasL_n, hasL_rep, hasL_flat, hasL_append, -List.map_set]) rfl rfl) ?_
      refine AL.st rfl (st_store_any inf60 rfl rfl rfl rfl rfl rfl rfl rfl (by first | decide | (simp; done) | (simp; omega)) rfl) ?_
      refine AL.nil ?_
      try simp only [thenS, S.put, S.newObj, setL, V.cs, List.length_cons, List.length_nil, List.take_succ_cons, List.take_zero, List.drop_succ_cons, List.drop_zero, List.drop_nil, List.nil_append, List.cons_append, List.append_nil, Nat.zero_add, Nat.reduceAdd, List.map_cons, List.map_nil, List.set_cons_zero, List.set_cons_succ]
      refine AF.seq ?_
      refine AF.seq ?_
      refine AF.region (fun _ h => h) rfl ?_
      (first | (refine AL.rd rfl rfl (rd_loads_ref Tryd.underlying60 rfl inf60 rfl rfl rfl rfl rfl rfl) ?_) | (refine AL.rd rfl rfl (rd_loads_ad Tryd.underlying60 rfl inf60 rfl rfl rfl rfl) ?_))
      refine AL.call (post := ?pc7) rfl (sm_callP (args := [_]) (preS_kept) (by assumption) ?hc7 ⟨Tryd.func26, rfl, rfl, rfl, rfl⟩ rfl rfl rfl rfl) ?_
      case hc7 => exact hsh
      rintro _ rfl -
      try dsimp only
      refine AL.rp rfl rfl (rp_move rfl rfl) ?_
      refine AL.rp rfl rfl (rp_extract rfl rfl rfl) ?_
      refine AL.rp rfl rfl (rp_extract rfl rfl rfl) ?_
      refine AL.rp rfl rfl (rp_assign rfl rfl) ?_
      refine AL.rp rfl rfl (rp_assign rfl rfl) ?_
      refine AL.nil ?_
      try simp only [thenS, S.put, S.newObj, setL, V.cs, List.length_cons, List.length_nil, List.take_succ_cons, List.take_zero, List.drop_succ_cons, List.drop_zero, List.drop_nil, List.nil_append, List.cons_append, List.append_nil, Nat.zero_add, Nat.reduceAdd, List.map_cons, List.map_nil, List.set_cons_zero, List.set_cons_succ]
      refine AF.seq ?_
      refine AF.region (fun _ h => h) rfl ?_
      refine AL.rp rfl rfl (rp_move rfl rfl) ?_
      (first | (refine AL.rp rfl rfl (rp_neqT rfl rfl rfl (by first | assumption | omega | (dsimp only; omega))) ?_) | (refine AL.rp rfl rfl (rp_neqF rfl rfl rfl (by first | assumption | omega | (dsimp only; omega))) ?_) | (refine AL.rp rfl rfl (rp_neq rfl rfl rfl) ?_))
      refine AL.rp rfl rfl (rp_move rfl rfl) ?_
      (first | (refine AL.noV rfl rfl rfl rfl ?_) | (refine AL.noU rfl ⟨_, rfl, rfl⟩ rfl ?_) | (refine AL.rpy rfl rfl rfl (rp_move rfl rfl) ?_))
      (first | (refine AL.noV rfl rfl rfl rfl ?_) | (refine AL.noU rfl ⟨_, rfl, rfl⟩ rfl ?_) | (refine AL.rpy rfl rfl rfl (rp_move rfl rfl) ?_))
      (first | (refine AL.noV rfl rfl rfl rfl ?_) | (refine AL.noU rfl ⟨_, rfl, rfl⟩ rfl ?_) | (refine AL.rpy rfl rfl rfl (rp_neqsF rfl rfl rfl (by assumption)) ?_) | (refine AL.rpy rfl rfl rfl (rp_neqsT rfl rfl rfl (by assumption)) ?_) | (refine AL.rpy rfl rfl rfl (rp_neqs rfl rfl rfl) ?_))
      refine AL.rp rfl rfl (rp_pick rfl rfl rfl) ?_
      refine AL.nil ?_
      try simp only [thenS, S.put]
      refine AF.condT rfl ?_
      refine AF.seq ?_
      refine AF.drawT (N := ?N9) (l := #[false, false, false, false, false]) 5 (by kernel_rfl) rfl rfl ?_ ?_
      rotate_left
      refine AN.br2 (i := 0) (j := 2) (by kernel_rfl) ?_ ?_
      ·refine BR.mk (l' := #[true, false, false, false, false]) rfl rfl rfl ?_
       (first | (refine ST.rd rfl (rd_load_ref Tryd.underlying28 rfl rfl rfl rfl rfl rfl) ?_) | (refine ST.rd rfl (rd_load_ad Tryd.underlying28 rfl rfl rfl rfl) ?_) | (refine ST.rd rfl (rd_load_map Tryd.underlying28 rfl rfl rfl rfl rfl rfl (by assumption)) ?_) | (refine ST.rd rfl (rd_load_flat Tryd.underlying28 rfl rfl rfl rfl rfl rfl (fun _ => rfl) (by assumption) rfl) ?_))
       (first | (refine AN.rp (i := 1) (l' := #[true, true, false, false, false]) rfl rfl rfl (fun _ _ h => h) (by kernel_rfl) rfl (rp_len_map Tryd.underlying28 rfl rfl (by assumption)) ?_) | (refine AN.rp (i := 1) (l' := #[true, true, false, false, false]) rfl rfl rfl (fun _ _ h => h) (by kernel_rfl) rfl (rp_len_own Tryd.underlying28 rfl rfl) ?_) | (refine AN.rp (i := 1) (l' := #[true, true, false, false, false]) rfl rfl rfl (fun _ _ h => h) (by kernel_rfl) rfl (rp_len_sl Tryd.underlying28 rfl rfl) ?_) | (refine AN.rp (i := 1) (l' := #[true, true, false, false, false]) rfl rfl rfl (fun _ _ h => h) (by kernel_rfl) rfl (rp_len_nil Tryd.underlying28 rfl rfl) ?_) | (refine AN.rp (i := 1) (l' := #[true, true, false, false, false]) rfl rfl rfl (fun _ _ h => h) (by kernel_rfl) rfl (rp_len_str Tryd.underlying28 rfl rfl) ?_))
       refine AN.br1 (i := 2) (by kernel_rfl) ?_
       refine BR.mk (l' := #[true, true, true, false, false]) rfl rfl rfl ?_
       (first | (refine ST.st (st_store_map2 inf28 rfl rfl rfl rfl rfl rfl rfl rfl (by first | assumption | omega)) ?_) | (refine ST.st (st_store inf28 rfl rfl rfl rfl rfl rfl rfl (by first | decide | (simp; done)) rfl) ?_))
       refine AN.br1 (i := 3) (by kernel_rfl) ?_
       refine BR.mk (l' := #[true, true, true, true, false]) rfl rfl rfl ?_
       (first | (refine ST.st (st_store_map2 inf3 rfl rfl rfl rfl rfl rfl rfl rfl (by first | assumption | omega)) ?_) | (refine ST.st (st_store inf3 rfl rfl rfl rfl rfl rfl rfl (by first | decide | (simp; done)) rfl) ?_))
       refine AN.br1 (i := 4) (by kernel_rfl) ?_
       refine BR.mk (l' := #[true, true, true, true, true]) rfl rfl rfl ?_
       (first | (refine ST.st (st_store_map2 inf23 rfl rfl rfl rfl rfl rfl rfl rfl (by first | assumption | omega)) ?_) | (refine ST.st (st_store inf23 rfl rfl rfl rfl rfl rfl rfl (by first | decide | (simp; done)) rfl) ?_))
       refine AN.nil (by kernel_rfl) ?_
       show Less _ _
       exact Less.dd _
      ·refine BR.mk (l' := #[false, false, true, false, false]) rfl rfl rfl ?_
       (first | (refine ST.st (st_store_map2 inf28 rfl rfl rfl rfl rfl rfl rfl rfl (by first | assumption | omega)) ?_) | (refine ST.st (st_store inf28 rfl rfl rfl rfl rfl rfl rfl (by first | decide | (simp; done)) rfl) ?_))
       refine AN.br1 (i := 0) (by kernel_rfl) ?_
       refine BR.mk (l' := #[true, false, true, false, false]) rfl rfl rfl ?_
       (first | (refine ST.rd rfl (rd_load_ref Tryd.underlying28 rfl rfl rfl rfl rfl rfl) ?_) | (refine ST.rd rfl (rd_load_ad Tryd.underlying28 rfl rfl rfl rfl) ?_) | (refine ST.rd rfl (rd_load_map Tryd.underlying28 rfl rfl rfl rfl rfl rfl (by assumption)) ?_) | (refine ST.rd rfl (rd_load_flat Tryd.underlying28 rfl rfl rfl rfl rfl rfl (fun _ => rfl) (by assumption) rfl) ?_))
       (first | (refine AN.rp (i := 1) (l' := #[true, true, true, false, false]) rfl rfl rfl (fun _ _ h => h) (by kernel_rfl) rfl (rp_len_map Tryd.underlying28 rfl rfl (by assumption)) ?_) | (refine AN.rp (i := 1) (l' := #[true, true, true, false, false]) rfl rfl rfl (fun _ _ h => h) (by kernel_rfl) rfl (rp_len_own Tryd.underlying28 rfl rfl) ?_) | (refine AN.rp (i := 1) (l' := #[true, true, true, false, false]) rfl rfl rfl (fun _ _ h => h) (by kernel_rfl) rfl (rp_len_sl Tryd.underlying28 rfl rfl) ?_) | (refine AN.rp (i := 1) (l' := #[true, true, true, false, false]) rfl rfl rfl (fun _ _ h => h) (by kernel_rfl) rfl (rp_len_nil Tryd.underlying28 rfl rfl) ?_) | (refine AN.rp (i := 1) (l' := #[true, true, true, false, false]) rfl rfl rfl (fun _ _ h => h) (by kernel_rfl) rfl (rp_len_str Tryd.underlying28 rfl rfl) ?_))
       refine AN.br1 (i := 3) (by kernel_rfl) ?_
       refine BR.mk (l' := #[true, true, true, true, false]) rfl rfl rfl ?_
       (first | (refine ST.st (st_store_map2 inf3 rfl rfl rfl rfl rfl rfl rfl rfl (by first | assumption | omega)) ?_) | (refine ST.st (st_store inf3 rfl rfl rfl rfl rfl rfl rfl (by first | decide | (simp; done)) rfl) ?_))
       refine AN.br1 (i := 4) (by kernel_rfl) ?_
       refine BR.mk (l' := #[true, true, true, true, true]) rfl rfl rfl ?_
       (first | (refine ST.st (st_store_map2 inf23 rfl rfl rfl rfl rfl rfl rfl rfl (by first | assumption | omega)) ?_) | (refine ST.st (st_store inf23 rfl rfl rfl rfl rfl rfl rfl (by first | decide | (simp; done)) rfl) ?_))
       refine AN.nil (by kernel_rfl) ?_
       show Less _ _
       (try simp only [S.put, S.newObj, setL, V.cs, List.length_cons, List.length_nil, List.take_succ_cons, List.take_zero, List.drop_succ_cons, List.drop_zero, List.drop_nil, List.nil_append, List.cons_append, List.append_nil, Nat.zero_add, Nat.reduceAdd, List.map_cons, List.map_nil, List.set_cons_zero, List.set_cons_succ])
       try simp only [S.dd, ddL, List.contains_cons, List.contains_nil, Nat.reduceBEq, beq_self_eq_true, Bool.or_false, Bool.or_true, Bool.false_or, Bool.true_or, Bool.or_self, if_true, if_false, Bool.false_eq_true, ↓reduceIte]
       exact (Less.of rfl (by repeat (first | exact trivial | refine ⟨⟨_, rfl, Wk.refl _⟩, ?_⟩)) (by repeat (first | exact trivial | refine ⟨rfl, ?_⟩)) rfl)
      (try simp only [S.put, S.newObj, setL, V.cs, List.length_cons, List.length_nil, List.take_succ_cons, List.take_zero, List.drop_succ_cons, List.drop_zero, List.drop_nil, List.nil_append, List.cons_append, List.append_nil, Nat.zero_add, Nat.reduceAdd, List.map_cons, List.map_nil, List.set_cons_zero, List.set_cons_succ])
      try simp only [S.dd, ddL, List.contains_cons, List.contains_nil, Nat.reduceBEq, beq_self_eq_true, Bool.or_false, Bool.or_true, Bool.false_or, Bool.true_or, Bool.or_self, if_true, if_false, Bool.false_eq_true, ↓reduceIte]
      try simp only [thenS, S.put, S.newObj, setL, V.cs, List.length_cons, List.length_nil, List.take_succ_cons, List.take_zero, List.drop_succ_cons, List.drop_zero, List.drop_nil, List.nil_append, List.cons_append, List.append_nil, Nat.zero_add, Nat.reduceAdd, List.map_cons, List.map_nil, List.set_cons_zero, List.set_cons_succ]
      refine AF.ret ?_
      simp only [thenS, inBlockS, QB, QB1]
      refine ⟨⟨42, [], (790, lnRow (ln2 rem)) :: scR .nil (acc.length : Int) 3, lnLoop lb w0.heap.size r0 .busy none :: ylV lb :: .ref 790 0 :: lnDf db w0.heap.size :: [.ref 2 0, .ref 3 0, .ref 4 0, .ref 791 0]⟩, ?_, rfl, rfl, _, rfl, rfl, _, _, hS.symm, by decide, rfl⟩
      exact (Less.of rfl (by repeat (first | exact trivial | refine ⟨⟨_, rfl, Wk.refl _⟩, ?_⟩ | refine ⟨⟨_, rfl, Wk.nil _ _⟩, ?_⟩ | refine ⟨⟨_, rfl, Wk.junk _⟩, ?_⟩)) (by repeat (first | exact trivial | refine ⟨rfl, ?_⟩)) rfl)
  ·rintro db H ⟨_, acc, hacc, hS, rfl⟩
   rw [lns_nil] at hS
   obtain rfl : R = (acc, 0, 0) := hS.symm
   dsimp only
   rw [if_pos rfl]
   unfold scH stRow
   simp only [List.zip_cons_cons, List.zip_nil_left]
   refine AW.freezeH 791 0 48 (acc.map stpD) rfl rfl rfl (by decide) rfl rfl (by rw [List.length_map]) (by omega) (rowsF (enc := stpD) (sz := 5) (l := acc) (fun _ => rfl) rfl) ?_
   refine AW.seq ?_
   refine AW.region ?_
   (first | (refine AL.rd rfl rfl (rd_load_ref Tryd.underlying28 rfl rfl rfl rfl rfl rfl) ?_) | (refine AL.rd rfl rfl (rd_load_ad Tryd.underlying28 rfl rfl rfl rfl) ?_) | (refine AL.rd rfl rfl (rd_load_map Tryd.underlying28 rfl rfl rfl rfl rfl rfl (by assumption)) ?_) | (refine AL.rd rfl rfl (rd_load_flat Tryd.underlying28 rfl rfl rfl rfl rfl rfl (fun _ => rfl) (by assumption) rfl) ?_))
   (first | (refine AL.st rfl (st_store_map2 inf28 rfl rfl rfl rfl rfl rfl rfl rfl (by first | assumption | omega)) ?_) | (refine AL.st rfl (st_store inf28 rfl rfl rfl rfl rfl rfl rfl (by first | decide | (simp; done)) rfl) ?_))
   (first | (refine AL.st rfl (st_store_map2 inf3 rfl rfl rfl rfl rfl rfl rfl rfl (by first | assumption | omega)) ?_) | (refine AL.st rfl (st_store inf3 rfl rfl rfl rfl rfl rfl rfl (by first | decide | (simp; done)) rfl) ?_))
   (first | (refine AL.st rfl (st_store_map2 inf23 rfl rfl rfl rfl rfl rfl rfl rfl (by first | assumption | omega)) ?_) | (refine AL.st rfl (st_store inf23 rfl rfl rfl rfl rfl rfl rfl (by first | decide | (simp; done)) rfl) ?_))
   refine AL.nil ?_
   try simp only [thenS, S.put, S.newObj, setL, V.cs, List.length_cons, List.length_nil, List.take_succ_cons, List.take_zero, List.drop_succ_cons, List.drop_zero, List.drop_nil, List.nil_append, List.cons_append, List.append_nil, Nat.zero_add, Nat.reduceAdd, List.map_cons, List.map_nil, List.set_cons_zero, List.set_cons_succ]
   refine AW.ret ?_
   refine ⟨[(2, .ref 2 0), (3, .ref 3 0), (4, .ref 4 0)], scR (.d (stpsD acc)) 0 0, (Less.of rfl (by repeat (first | exact trivial | refine ⟨⟨_, rfl, Wk.refl _⟩, ?_⟩ | refine ⟨⟨_, rfl, Wk.nil _ _⟩, ?_⟩ | refine ⟨⟨_, rfl, Wk.junk _⟩, ?_⟩)) (by repeat (first | exact trivial | refine ⟨rfl, ?_⟩)) rfl), ⟨rfl, rfl, fun v hv => by cases hv⟩, [_, _, _], ⟨⟨2, 0, _, _, rfl, rfl, rfl, Tryd.underlying28, .inl ⟨rfl, rfl⟩⟩, ⟨3, 0, _, _, rfl, rfl, rfl, Tryd.underlying3, .inl ⟨rfl, rfl⟩⟩, ⟨4, 0, _, _, rfl, rfl, rfl, Tryd.underlying23, .inl ⟨rfl, rfl⟩⟩, trivial⟩, rfl, by simp [tupOf, V.pure, V.has, V.hasL]⟩
  ·rintro db rest H ⟨m, e, rfl, he, rfl⟩
   dsimp only
   rw [if_neg he]
   simp only [List.zip_cons_cons, List.zip_nil_left]
   refine ⟨[(2, .ref 2 0), (3, .ref 3 0), (4, .ref 4 0)], scR .nil m e, (Less.of rfl (by repeat (first | exact trivial | refine ⟨⟨_, rfl, Wk.refl _⟩, ?_⟩ | refine ⟨⟨_, rfl, Wk.nil _ _⟩, ?_⟩ | refine ⟨⟨_, rfl, Wk.junk _⟩, ?_⟩)) (by repeat (first | exact trivial | refine ⟨rfl, ?_⟩)) rfl), ⟨rfl, rfl, fun v hv => by cases hv⟩, [_, _, _], ⟨⟨2, 0, _, _, rfl, rfl, rfl, Tryd.underlying28, .inl ⟨rfl, rfl⟩⟩, ⟨3, 0, _, _, rfl, rfl, rfl, Tryd.underlying3, .inl ⟨rfl, rfl⟩⟩, ⟨4, 0, _, _, rfl, rfl, rfl, Tryd.underlying23, .inl ⟨rfl, rfl⟩⟩, trivial⟩, rfl, by simp [tupOf, V.pure, V.has, V.hasL, nlV]⟩
end Go.Proofs.YtlgnjehfojogmaaDoor
namespace Go.Proofs.YtlgnjehfojogmaaDoor
open Go.RowKit
set_option linter.unusedSimpArgs false
set_option linter.unusedVariables false
set_option maxRecDepth 100000

theorem am_sameSteps (l : List Stp) : Fn Tryd.prog 11 [.d (stpsD l), .d (stpsD l)] (fun v => v = .b true) := by
 refine Fn.sl 0 rfl fun hb => ?_
 obtain ⟨n, hn⟩ : ∃ n, l.length = n := ⟨_, rfl⟩
 rw [List.length_map, hn] at hb
 refine Fn.intro (n := 26) ⟨Tryd.func11, rfl, rfl, rfl, rfl⟩ (by simp [V.pure, V.has, V.hasL]) (by simp) fun w0 out => ?_
 refine AW.seq ?_
 refine AW.region ?_
 refine AL.rp rfl rfl (rp_assign rfl rfl) ?_
 refine AL.nil ?_
 try simp only [thenS, S.put, enum, List.nil_append, List.cons_append, List.append_nil, Nat.zero_add, Nat.reduceAdd]
 refine AW.seq ?_
 refine AW.seq ?_
 refine AW.region ?_
 refine AL.rp rfl rfl (rp_move rfl rfl) ?_
 (first | (refine AL.rp rfl rfl (rp_len_map Tryd.underlying28 rfl rfl (by assumption)) ?_) | (refine AL.rp rfl rfl (rp_len_own Tryd.underlying28 rfl rfl) ?_) | (refine AL.rp rfl rfl (rp_len_sl Tryd.underlying28 rfl rfl) ?_) | (refine AL.rp rfl rfl (rp_len_nil Tryd.underlying28 rfl rfl) ?_) | (refine AL.rp rfl rfl (rp_len_str Tryd.underlying28 rfl rfl) ?_))
 refine AL.rp rfl rfl (rp_move rfl rfl) ?_
 (first | (refine AL.rp rfl rfl (rp_len_map Tryd.underlying28 rfl rfl (by assumption)) ?_) | (refine AL.rp rfl rfl (rp_len_own Tryd.underlying28 rfl rfl) ?_) | (refine AL.rp rfl rfl (rp_len_sl Tryd.underlying28 rfl rfl) ?_) | (refine AL.rp rfl rfl (rp_len_nil Tryd.underlying28 rfl rfl) ?_) | (refine AL.rp rfl rfl (rp_len_str Tryd.underlying28 rfl rfl) ?_))
 (first | (refine AL.rp rfl rfl (rp_neqT rfl rfl rfl (by first | assumption | omega | (dsimp only; omega))) ?_) | (refine AL.rp rfl rfl (rp_neqF rfl rfl rfl (by first | assumption | omega | (dsimp only; omega))) ?_) | (refine AL.rp rfl rfl (rp_neq rfl rfl rfl) ?_))
 refine AL.nil ?_
 try simp only [thenS, S.put]
 refine AW.condF rfl ?_
 refine AW.skip ?_
 try simp only [thenS]
 refine AW.seq ?_
 refine AW.seq ?_
 refine AW.region ?_
 refine AL.rp rfl rfl (rp_assign rfl rfl) ?_
 refine AL.nil ?_
 try simp only [thenS, S.put]
 refine AW.block ?_
 refine AW.loop (fun s' => ∃ k : Nat, k ≤ n ∧ s' = ⟨26, [(0, .d (stpsD l)), (1, .d (stpsD l)), (5, .i k)], [], []⟩) (fun s' => n - s'.nat 5) ⟨_, ?_, 0, by omega, rfl⟩ ?_
 ·exact (Less.of rfl (by repeat (first | exact trivial | refine ⟨⟨_, rfl, Wk.refl _⟩, ?_⟩ | refine ⟨⟨_, rfl, Wk.nil _ _⟩, ?_⟩ | refine ⟨⟨_, rfl, Wk.junk _⟩, ?_⟩)) (by repeat (first | exact trivial | refine ⟨rfl, ?_⟩)) rfl)
 rintro s' ⟨k, hk, rfl⟩
 by_cases hlt : k < n
 ·obtain ⟨x, hx⟩ := get_lt hn hlt
  obtain ⟨xk, xt, xa, xb, xn⟩ := x
  refine AW.seq ?_
  refine AW.seq ?_
  refine AW.region ?_
  refine AL.rp rfl rfl (rp_move rfl rfl) ?_
  refine AL.rp rfl rfl (rp_move rfl rfl) ?_
  (first | (refine AL.rp rfl rfl (rp_len_map Tryd.underlying28 rfl rfl (by assumption)) ?_) | (refine AL.rp rfl rfl (rp_len_own Tryd.underlying28 rfl rfl) ?_) | (refine AL.rp rfl rfl (rp_len_sl Tryd.underlying28 rfl rfl) ?_) | (refine AL.rp rfl rfl (rp_len_nil Tryd.underlying28 rfl rfl) ?_) | (refine AL.rp rfl rfl (rp_len_str Tryd.underlying28 rfl rfl) ?_))
  (first | (refine AL.rp rfl rfl (rp_lssT rfl rfl rfl (by first | assumption | omega | (dsimp only; omega))) ?_) | (refine AL.rp rfl rfl (rp_lssF rfl rfl rfl (by first | assumption | omega | (dsimp only; omega))) ?_) | (refine AL.rp rfl rfl (rp_lss rfl rfl rfl) ?_))
  refine AL.nil ?_
  try simp only [thenS, S.put]
  refine AW.condT rfl ?_
  refine AW.skip ?_
  try simp only [thenS]
  refine AW.seq ?_
  refine AW.block ?_
  refine AW.seq ?_
  refine AW.draw [(0, true), (1, true), (2, true), (3, true), (4, true), (5, true), (6, true), (7, true), (8, true)] (fun i => !([] : List Nat).contains i) 9 (by kernel_rfl) (by kernel_rfl) rfl (by kernel_rfl) ?_
  refine AD1.rp rfl rfl rfl (fun _ _ h => h) (rp_move rfl rfl) ?_
  refine AD1.rp rfl rfl rfl (fun _ _ h => h) (rp_move rfl rfl) ?_
  (first | (refine AD1.rp rfl rfl rfl (fun _ _ h => h) (rp_index_map Tryd.underlying28 inf60 rfl rfl rfl rfl (by assumption)) ?_) | (refine AD1.rp rfl rfl rfl (fun _ _ h => h) (rp_index_own Tryd.underlying28 inf60 rfl rfl rfl rfl (by first | assumption | omega)) ?_) | (refine AD1.rp rfl rfl rfl (fun _ _ h => h) (rd_index_sl Tryd.underlying28 inf60 rfl rfl rfl rfl (by assumption)) ?_) | (refine AD1.rp rfl rfl rfl (fun _ _ h => h) (rp_index_own Tryd.underlying28 inf60 rfl rfl rfl (by omega) (by omega)) ?_))
  (first | (refine AD1.rd rfl rfl rfl (fun _ _ h => h) (rd_loads_ref Tryd.underlying60 rfl inf60 rfl rfl rfl rfl rfl rfl) ?_) | (refine AD1.rd rfl rfl rfl (fun _ _ h => h) (rd_loads_ad Tryd.underlying60 rfl inf60 rfl rfl rfl rfl) ?_))
  refine AD1.rp rfl rfl rfl (fun _ _ h => h) (rp_move rfl rfl) ?_
  refine AD1.rp rfl rfl rfl (fun _ _ h => h) (rp_move rfl rfl) ?_
  (first | (refine AD1.rp rfl rfl rfl (fun _ _ h => h) (rp_index_map Tryd.underlying28 inf60 rfl rfl rfl rfl (by assumption)) ?_) | (refine AD1.rp rfl rfl rfl (fun _ _ h => h) (rp_index_own Tryd.underlying28 inf60 rfl rfl rfl rfl (by first | assumption | omega)) ?_) | (refine AD1.rp rfl rfl rfl (fun _ _ h => h) (rd_index_sl Tryd.underlying28 inf60 rfl rfl rfl rfl (by assumption)) ?_) | (refine AD1.rp rfl rfl rfl (fun _ _ h => h) (rp_index_own Tryd.underlying28 inf60 rfl rfl rfl (by omega) (by omega)) ?_))
  (first | (refine AD1.rd rfl rfl rfl (fun _ _ h => h) (rd_loads_ref Tryd.underlying60 rfl inf60 rfl rfl rfl rfl rfl rfl) ?_) | (refine AD1.rd rfl rfl rfl (fun _ _ h => h) (rd_loads_ad Tryd.underlying60 rfl inf60 rfl rfl rfl rfl) ?_))
  refine AD1.rp rfl rfl rfl (fun _ _ h => h) (cmp_neq_60F rfl rfl rfl rfl (by first | assumption | rfl)) ?_
  refine AD1.nil ?_
  try simp only [thenS, S.put]
  refine AW.condF rfl ?_
  refine AW.skip ?_
  try simp only [thenS]
  refine AW.region ?_
  refine AL.rp rfl rfl (rp_move rfl rfl) ?_
  refine AL.rp rfl rfl (rp_add rfl rfl rfl (by first | omega | (dsimp only; omega))) ?_
  refine AL.rp rfl rfl (rp_assign rfl rfl) ?_
  refine AL.nil ?_
  try simp only [thenS, S.put]
  refine ⟨_, ?_, ⟨k + 1, by omega, rfl⟩, ?_⟩
  ·exact (Less.of rfl (by repeat (first | exact trivial | refine ⟨⟨_, rfl, Wk.refl _⟩, ?_⟩ | refine ⟨⟨_, rfl, Wk.nil _ _⟩, ?_⟩ | refine ⟨⟨_, rfl, Wk.junk _⟩, ?_⟩)) (by repeat (first | exact trivial | refine ⟨rfl, ?_⟩)) rfl)
  ·simp [S.nat, fnd]; omega
 ·skip
  refine AW.seq ?_
  refine AW.seq ?_
  refine AW.region ?_
  refine AL.rp rfl rfl (rp_move rfl rfl) ?_
  refine AL.rp rfl rfl (rp_move rfl rfl) ?_
  (first | (refine AL.rp rfl rfl (rp_len_map Tryd.underlying28 rfl rfl (by assumption)) ?_) | (refine AL.rp rfl rfl (rp_len_own Tryd.underlying28 rfl rfl) ?_) | (refine AL.rp rfl rfl (rp_len_sl Tryd.underlying28 rfl rfl) ?_) | (refine AL.rp rfl rfl (rp_len_nil Tryd.underlying28 rfl rfl) ?_) | (refine AL.rp rfl rfl (rp_len_str Tryd.underlying28 rfl rfl) ?_))
  (first | (refine AL.rp rfl rfl (rp_lssT rfl rfl rfl (by first | assumption | omega | (dsimp only; omega))) ?_) | (refine AL.rp rfl rfl (rp_lssF rfl rfl rfl (by first | assumption | omega | (dsimp only; omega))) ?_) | (refine AL.rp rfl rfl (rp_lss rfl rfl rfl) ?_))
  refine AL.nil ?_
  try simp only [thenS, S.put]
  refine AW.condF rfl ?_
  refine AW.exit ?_
  try simp only [thenS, inBlockS, ↓reduceIte, Nat.reduceEqDiff]
  refine AW.seq ?_
  refine AW.region ?_
  refine AL.rp rfl rfl (rp_assign rfl rfl) ?_
  refine AL.nil ?_
  try simp only [thenS, S.put]
  refine AW.ret ?_
  exact ⟨[_], ⟨rfl, trivial⟩, rfl, by simp [tupOf, V.pure, V.has]⟩
end Go.Proofs.YtlgnjehfojogmaaDoor
