/- Part 7 of what the law PaperReads rests on. -/
import Derived.Test.YtkikceoccmoanaaGreatDoorPkPa1
import Derived.Test.YtkikceoccmoanaaGreatDoorPkPa2
import Derived.Test.YtkikceoccmoanaaGreatDoorPkPa3
import Derived.Test.YtkikceoccmoanaaGreatDoorPkPa4
import Derived.Test.YtkikceoccmoanaaGreatDoorPkPa5
import Derived.Test.YtkikceoccmoanaaGreatDoorPkPa6
namespace Go.Proofs.YtkikceoccmoanaaGreatDoor
open Go.RowKit
set_option linter.unusedSimpArgs false
set_option linter.unusedVariables false
set_option maxRecDepth 100000

def FS : Fam St := ⟨44, 4, 32, fun s => [.p (.int .i64 s.fin)], fun s => s.arcs.map arD⟩
theorem putA_set {l : List St} {p : Nat} {x : St} (a : Ar) (hx : l[p]? = some x) (hl : l.length = p + 1) : putA l a = l.set p ⟨x.fin, x.arcs ++ [a]⟩ := by
 obtain ⟨l0, y, rfl⟩ : ∃ l0 y, l = l0 ++ [y] := ⟨l.dropLast, l.getLast (by intro e; rw [e] at hl; simp at hl), (List.dropLast_concat_getLast _).symm⟩
 have h0 : l0.length = p := by simpa using hl
 subst h0
 simp only [List.getElem?_concat_length, Option.some.injEq] at hx
 subst hx
 rw [putA_snoc]
 simp
@[simp] theorem fs_cells_len (l : List St) (k : Nat) : (FS.cells k l).length = l.length * 2 := Fam.cells_len (F := FS) (m := 1) (fun _ => rfl) l k
theorem fs_set (l : List St) (k : Nat) (w : Int) (v : V) : (FS.cells k l ++ [V.i w, V.nil]).set (l.length * 2 + 1) v = FS.cells k l ++ [V.i w, v] := by
 rw [List.set_append_right _ _ (by rw [fs_cells_len]; omega), fs_cells_len, show l.length * 2 + 1 - l.length * 2 = 1 by omega]
 rfl
theorem fs_nil (l : List St) (k : Nat) (w : Int) : (FS.cells k l ++ [V.i w, V.nil])[l.length * 2 + 1]? = some V.nil := by
 rw [List.getElem?_append_right (by rw [fs_cells_len]; omega), fs_cells_len, show l.length * 2 + 1 - l.length * 2 = 1 by omega]
 rfl
theorem mR_succ {L : List (List UInt8)} {i : Nat} {m : Mach} {u : List UInt8} (hm : mR L i = some m) (hu : L[i]? = some u) : mR L (i + 1) = lnA i m (prt u) := by
 show (mR L i).bind _ = _
 rw [hm, Option.bind_some, hu, Option.getD_some]
theorem mR_stop {L : List (List UInt8)} {i : Nat} (h : mR L i = none) : ∀ d, mR L (i + d) = none
 | 0 => h
 | d + 1 => by
  show (mR L (i + d)).bind _ = _
  rw [mR_stop h d]
  rfl
/-- How large what is read can be. -/
def szM (i : Nat) (m : Mach) : Prop := m.states.length ≤ i ∧ ∀ x ∈ m.states, x.arcs.length ≤ i
theorem szM_put {i : Nat} {st : Int} {l : List St} {p : Nat} {x : St} {a : Ar} (h : szM i ⟨st, l⟩) (hx : l[p]? = some x) : szM (i + 1) ⟨st, l.set p ⟨x.fin, x.arcs ++ [a]⟩⟩ := by
 obtain ⟨h1, h2⟩ := h
 refine ⟨by simp only [List.length_set]; exact Nat.le_succ_of_le h1, fun y hy => ?_⟩
 rcases List.mem_or_eq_of_mem_set hy with hy | rfl
 ·exact Nat.le_succ_of_le (h2 y hy)
 ·have := h2 x (List.mem_of_getElem? hx)
  simp only [List.length_append, List.length_cons, List.length_nil]
  omega
theorem szM_app {i : Nat} {st : Int} {l : List St} {w : Int} (h : szM i ⟨st, l⟩) : szM (i + 1) ⟨st, l ++ [⟨w, []⟩]⟩ := by
 obtain ⟨h1, h2⟩ := h
 simp only at h1 h2
 refine ⟨by simp; omega, fun y hy => ?_⟩
 rcases List.mem_append.1 hy with hy | hy
 ·exact Nat.le_succ_of_le (h2 y hy)
 ·simp only [List.mem_singleton] at hy
  subst hy
  simp
theorem szM_st {i : Nat} {m : Mach} {st' : Int} (h : szM i m) : szM (i + 1) ⟨st', m.states⟩ := ⟨Nat.le_succ_of_le h.1, fun y hy => Nat.le_succ_of_le (h.2 y hy)⟩
set_option maxHeartbeats 8000000 in
theorem am_RPRead (t : List UInt8) : Fn Tryz.prog 5 [.s (bs t)] (fun v => resP (rrEp t) (rrMp t) v) := by
 have hbs := bs_size t
 by_cases hbig : 20000 < t.length
 ·have hE : rrEp t = 1 := by unfold rrEp; rw [if_pos hbig]
  rw [hE]
  refine Fn.intro (n := 170) ⟨Tryz.func5, rfl, rfl, rfl, rfl⟩ (by simp [V.pure, V.has, V.hasL]) (by simp) fun w0 out => ?_
  refine AW.seq ?_
  refine AW.region ?_
  refine AL.sm rfl (sm_alloc (l := [.d (.p (.int .i64 0)), .d (.p (.slice none 0 0))]) 2 inf24 rfl rfl rfl rfl) ?_
  refine AL.rp rfl rfl (rp_assign rfl rfl) ?_
  refine AL.nil ?_
  try simp only [thenS, S.put, S.newObj, setL, V.cs, List.length_cons, List.length_nil, List.take_succ_cons, List.take_zero, List.drop_succ_cons, List.drop_zero, List.drop_nil, List.nil_append, List.cons_append, List.append_nil, Nat.zero_add, Nat.reduceAdd, List.map_cons, List.map_nil, List.set_cons_zero, List.set_cons_succ, enum]
  refine AW.seq ?_
  refine AW.seq ?_
  refine AW.region ?_
  refine AL.rp rfl rfl (rp_move rfl rfl) ?_
  refine AL.rp rfl rfl (rp_len_str Tryz.underlying9 rfl rfl) ?_
  (refine AL.rp rfl rfl (rp_gtrT rfl rfl rfl (by first | assumption | omega | (dsimp only; omega))) ?_)
  refine AL.nil ?_
  try simp only [thenS, S.put, List.nil_append, List.cons_append]
  refine AW.condT rfl ?_
  refine AW.seq ?_
  refine AW.region ?_
  refine AL.rp rfl rfl (rp_build (vs := []) (zs := [.d (.p (.int .i64 0)), .d (.p (.slice none 0 0))]) pl24 inf24 rfl rfl rfl rfl) ?_
  refine AL.st rfl (st_store_any inf24 rfl rfl rfl rfl rfl rfl rfl rfl (by first | decide | (simp; done) | (simp; omega)) rfl) ?_
  refine AL.rp rfl rfl (rp_assign rfl rfl) ?_
  refine AL.nil ?_
  try simp only [thenS, S.put, S.newObj, setL, V.cs, List.length_cons, List.length_nil, List.take_succ_cons, List.take_zero, List.drop_succ_cons, List.drop_zero, List.drop_nil, List.nil_append, List.cons_append, List.append_nil, Nat.zero_add, Nat.reduceAdd, List.map_cons, List.map_nil, List.set_cons_zero, List.set_cons_succ]
  refine AW.ret ?_
  exact ⟨[_, _], ⟨⟨2, 0, _, _, rfl, rfl, rfl, Tryz.underlying24, .inr ⟨rfl, _, _, _, _, inf24, rfl, rfl, rfl⟩⟩, rfl, trivial⟩, .inl ⟨by decide, rfl⟩, by simp [tupOf, V.pure, V.has, V.hasL]⟩
 ·have hE0 : rrEp t = if rrO t = none then 3 else if machE (rrMp t) = 0 then 0 else 3 := by unfold rrEp; rw [if_neg hbig]
  have hlines := am_RLines t (by omega)
  have hmem : ∀ x ∈ pcs 10 t t.length, x.length ≤ 20000 := fun x hx => by have := pcs_mem hx; omega
  have hpl := pcs_len 10 t t.length
  by_cases hgo : frm 10 t t.length = t.length ∧ pcs 10 t t.length ≠ []
  rotate_left
  ·have hO : rrO t = none := by unfold rrO; rw [if_neg hgo]
   rw [if_pos hO] at hE0
   rw [hE0]
   by_cases hf : frm 10 t t.length = t.length
   ·have hL : pcs 10 t t.length = [] := Classical.byContradiction fun h => hgo ⟨hf, h⟩
    rw [decide_eq_true hf, hL] at hlines
    unfold strsD at hlines
    refine Fn.intro (n := 170) ⟨Tryz.func5, rfl, rfl, rfl, rfl⟩ (by simp [V.pure, V.has, V.hasL]) (by simp) fun w0 out => ?_
    refine AW.seq ?_
    refine AW.region ?_
    refine AL.sm rfl (sm_alloc (l := [.d (.p (.int .i64 0)), .d (.p (.slice none 0 0))]) 2 inf24 rfl rfl rfl rfl) ?_
    refine AL.rp rfl rfl (rp_assign rfl rfl) ?_
    refine AL.nil ?_
    try simp only [thenS, S.put, S.newObj, setL, V.cs, List.length_cons, List.length_nil, List.take_succ_cons, List.take_zero, List.drop_succ_cons, List.drop_zero, List.drop_nil, List.nil_append, List.cons_append, List.append_nil, Nat.zero_add, Nat.reduceAdd, List.map_cons, List.map_nil, List.set_cons_zero, List.set_cons_succ, enum]
    refine AW.seq ?_
    refine AW.seq ?_
    refine AW.region ?_
    refine AL.rp rfl rfl (rp_move rfl rfl) ?_
    refine AL.rp rfl rfl (rp_len_str Tryz.underlying9 rfl rfl) ?_
    (refine AL.rp rfl rfl (rp_gtrF rfl rfl rfl (by first | assumption | omega | (dsimp only; omega))) ?_)
    refine AL.nil ?_
    try simp only [thenS, S.put, List.nil_append, List.cons_append]
    refine AW.condF rfl ?_
    refine AW.skip ?_
    try simp only [thenS, List.nil_append, List.cons_append]
    refine AW.seq ?_
    refine AW.region ?_
    refine AL.rp rfl rfl (rp_move rfl rfl) ?_
    refine AL.call (post := ?pc0) rfl (sm_call (args := [_]) ?hc0 ⟨Tryz.func9, rfl, rfl, rfl, rfl⟩ rfl rfl rfl rfl) ?_
    case hc0 => exact hlines
    rintro _ rfl -
    try dsimp only
    refine AL.rp rfl rfl (rp_move rfl rfl) ?_
    refine AL.rp rfl rfl (rp_extract rfl rfl rfl) ?_
    refine AL.rp rfl rfl (rp_extract rfl rfl rfl) ?_
    refine AL.rp rfl rfl (rp_assign rfl rfl) ?_
    refine AL.rp rfl rfl (rp_assign rfl rfl) ?_
    refine AL.nil ?_
    try simp only [thenS, S.put, S.newObj, setL, V.cs, List.length_cons, List.length_nil, List.take_succ_cons, List.take_zero, List.drop_succ_cons, List.drop_zero, List.drop_nil, List.nil_append, List.cons_append, List.append_nil, Nat.zero_add, Nat.reduceAdd, List.map_cons, List.map_nil, List.set_cons_zero, List.set_cons_succ]
    refine AW.seq ?_
    refine AW.seq ?_
    refine AW.region ?_
    refine AL.rp rfl rfl (rp_move rfl rfl) ?_
    refine AL.rp rfl rfl (rp_not rfl rfl) ?_
    refine AL.rp rfl rfl (rp_move rfl rfl) ?_
    refine AL.rpy rfl rfl rfl (rp_move rfl rfl) ?_
    refine AL.rpy rfl rfl rfl (rp_len_sl Tryz.underlying33 rfl rfl) ?_
    refine AL.rpy rfl rfl rfl (rp_eql rfl rfl rfl) ?_
    refine AL.rp rfl rfl (rp_pick rfl rfl rfl) ?_
    refine AL.nil ?_
    try simp only [thenS, S.put, List.nil_append, List.cons_append]
    refine AW.condT rfl ?_
    refine AW.seq ?_
    refine AW.region ?_
    refine AL.rp rfl rfl (rp_build (vs := []) (zs := [.d (.p (.int .i64 0)), .d (.p (.slice none 0 0))]) pl24 inf24 rfl rfl rfl rfl) ?_
    refine AL.st rfl (st_store_any inf24 rfl rfl rfl rfl rfl rfl rfl rfl (by first | decide | (simp; done) | (simp; omega)) rfl) ?_
    refine AL.rp rfl rfl (rp_assign rfl rfl) ?_
    refine AL.nil ?_
    try simp only [thenS, S.put, S.newObj, setL, V.cs, List.length_cons, List.length_nil, List.take_succ_cons, List.take_zero, List.drop_succ_cons, List.drop_zero, List.drop_nil, List.nil_append, List.cons_append, List.append_nil, Nat.zero_add, Nat.reduceAdd, List.map_cons, List.map_nil, List.set_cons_zero, List.set_cons_succ]
    refine AW.ret ?_
    exact ⟨[_, _], ⟨⟨2, 0, _, _, rfl, rfl, rfl, Tryz.underlying24, .inr ⟨rfl, _, _, _, _, inf24, rfl, rfl, rfl⟩⟩, rfl, trivial⟩, .inl ⟨by decide, rfl⟩, by simp [tupOf, V.pure, V.has, V.hasL]⟩
   ·rw [decide_eq_false hf] at hlines
    refine Fn.intro (n := 170) ⟨Tryz.func5, rfl, rfl, rfl, rfl⟩ (by simp [V.pure, V.has, V.hasL]) (by simp) fun w0 out => ?_
    refine AW.seq ?_
    refine AW.region ?_
    refine AL.sm rfl (sm_alloc (l := [.d (.p (.int .i64 0)), .d (.p (.slice none 0 0))]) 2 inf24 rfl rfl rfl rfl) ?_
    refine AL.rp rfl rfl (rp_assign rfl rfl) ?_
    refine AL.nil ?_
    try simp only [thenS, S.put, S.newObj, setL, V.cs, List.length_cons, List.length_nil, List.take_succ_cons, List.take_zero, List.drop_succ_cons, List.drop_zero, List.drop_nil, List.nil_append, List.cons_append, List.append_nil, Nat.zero_add, Nat.reduceAdd, List.map_cons, List.map_nil, List.set_cons_zero, List.set_cons_succ, enum]
    refine AW.seq ?_
    refine AW.seq ?_
    refine AW.region ?_
    refine AL.rp rfl rfl (rp_move rfl rfl) ?_
    refine AL.rp rfl rfl (rp_len_str Tryz.underlying9 rfl rfl) ?_
    (refine AL.rp rfl rfl (rp_gtrF rfl rfl rfl (by first | assumption | omega | (dsimp only; omega))) ?_)
    refine AL.nil ?_
    try simp only [thenS, S.put, List.nil_append, List.cons_append]
    refine AW.condF rfl ?_
    refine AW.skip ?_
    try simp only [thenS, List.nil_append, List.cons_append]
    refine AW.seq ?_
    refine AW.region ?_
    refine AL.rp rfl rfl (rp_move rfl rfl) ?_
    refine AL.call (post := ?pc1) rfl (sm_call (args := [_]) ?hc1 ⟨Tryz.func9, rfl, rfl, rfl, rfl⟩ rfl rfl rfl rfl) ?_
    case hc1 => exact hlines
    rintro _ rfl -
    try dsimp only
    refine AL.rp rfl rfl (rp_move rfl rfl) ?_
    refine AL.rp rfl rfl (rp_extract rfl rfl rfl) ?_
    refine AL.rp rfl rfl (rp_extract rfl rfl rfl) ?_
    refine AL.rp rfl rfl (rp_assign rfl rfl) ?_
    refine AL.rp rfl rfl (rp_assign rfl rfl) ?_
    refine AL.nil ?_
    try simp only [thenS, S.put, S.newObj, setL, V.cs, List.length_cons, List.length_nil, List.take_succ_cons, List.take_zero, List.drop_succ_cons, List.drop_zero, List.drop_nil, List.nil_append, List.cons_append, List.append_nil, Nat.zero_add, Nat.reduceAdd, List.map_cons, List.map_nil, List.set_cons_zero, List.set_cons_succ]
    refine AW.seq ?_
    refine AW.seq ?_
    refine AW.region ?_
    refine AL.rp rfl rfl (rp_move rfl rfl) ?_
    refine AL.rp rfl rfl (rp_not rfl rfl) ?_
    refine AL.rp rfl rfl (rp_move rfl rfl) ?_
    refine AL.noV rfl rfl rfl rfl ?_
    refine AL.noV rfl rfl rfl rfl ?_
    refine AL.noV rfl rfl rfl rfl ?_
    refine AL.rp rfl rfl (rp_pick rfl rfl rfl) ?_
    refine AL.nil ?_
    try simp only [thenS, S.put, List.nil_append, List.cons_append]
    refine AW.condT rfl ?_
    refine AW.seq ?_
    refine AW.region ?_
    refine AL.rp rfl rfl (rp_build (vs := []) (zs := [.d (.p (.int .i64 0)), .d (.p (.slice none 0 0))]) pl24 inf24 rfl rfl rfl rfl) ?_
    refine AL.st rfl (st_store_any inf24 rfl rfl rfl rfl rfl rfl rfl rfl (by first | decide | (simp; done) | (simp; omega)) rfl) ?_
    refine AL.rp rfl rfl (rp_assign rfl rfl) ?_
    refine AL.nil ?_
    try simp only [thenS, S.put, S.newObj, setL, V.cs, List.length_cons, List.length_nil, List.take_succ_cons, List.take_zero, List.drop_succ_cons, List.drop_zero, List.drop_nil, List.nil_append, List.cons_append, List.append_nil, Nat.zero_add, Nat.reduceAdd, List.map_cons, List.map_nil, List.set_cons_zero, List.set_cons_succ]
    refine AW.ret ?_
    exact ⟨[_, _], ⟨⟨2, 0, _, _, rfl, rfl, rfl, Tryz.underlying24, .inr ⟨rfl, _, _, _, _, inf24, rfl, rfl, rfl⟩⟩, rfl, trivial⟩, .inl ⟨by decide, rfl⟩, by simp [tupOf, V.pure, V.has, V.hasL]⟩
  ·obtain ⟨hf, hne⟩ := hgo
   rw [decide_eq_true hf] at hlines
   have hO : rrO t = mR (pcs 10 t t.length) (pcs 10 t t.length).length := by unfold rrO; rw [if_pos ⟨hf, hne⟩]
   have hM : rrMp t = (mR (pcs 10 t t.length) (pcs 10 t t.length).length).getD ⟨0, []⟩ := by unfold rrMp; rw [hO]
   rw [hO] at hE0
   obtain ⟨L, hL⟩ : ∃ L, pcs 10 t t.length = L := ⟨_, rfl⟩
   rw [hL] at hlines hpl hmem hE0 hne hM
   obtain ⟨n, hn⟩ : ∃ n, L.length = n := ⟨_, rfl⟩
   have hnpos : 0 < n := by rw [← hn]; exact List.length_pos_iff.2 hne
   rw [hn] at hpl hE0 hM
   have hbad : ∀ i, i < n → mR L (i + 1) = none → rrEp t = 3 := fun i hi h => by
    have := mR_stop h (n - (i + 1))
    rw [show i + 1 + (n - (i + 1)) = n by omega] at this
    rw [hE0, if_pos this]
   have hn' : (L.map fun b => [D.p (.string (bs b))]).length = n := by rw [List.length_map]; exact hn
   have hend : ∀ m, mR L n = some m → rrMp t = m ∧ rrEp t = if machE m = 0 then 0 else 3 := fun m h => by
    have hm : rrMp t = m := by rw [hM, h]; rfl
    refine ⟨hm, ?_⟩
    rw [hE0, hm, if_neg (by rw [h]; simp)]
   clear hE0 hM hO hL hne hf
   obtain ⟨E0, hE⟩ : ∃ E, rrEp t = E := ⟨_, rfl⟩
   obtain ⟨M0, hMM⟩ : ∃ M, rrMp t = M := ⟨_, rfl⟩
   rw [hE] at hbad
   rw [hMM, hE] at hend
   rw [hE, hMM]
   clear hE hMM
   unfold strsD at hlines
   refine Fn.intro (n := 170) ⟨Tryz.func5, rfl, rfl, rfl, rfl⟩ (by simp [V.pure, V.has, V.hasL]) (by simp) fun w0 out => ?_
   refine AW.seq ?_
   refine AW.region ?_
   refine AL.sm rfl (sm_alloc (l := [.d (.p (.int .i64 0)), .d (.p (.slice none 0 0))]) 2 inf24 rfl rfl rfl rfl) ?_
   refine AL.rp rfl rfl (rp_assign rfl rfl) ?_
   refine AL.nil ?_
   try simp only [thenS, S.put, S.newObj, setL, V.cs, List.length_cons, List.length_nil, List.take_succ_cons, List.take_zero, List.drop_succ_cons, List.drop_zero, List.drop_nil, List.nil_append, List.cons_append, List.append_nil, Nat.zero_add, Nat.reduceAdd, List.map_cons, List.map_nil, List.set_cons_zero, List.set_cons_succ, enum]
   refine AW.seq ?_
   refine AW.seq ?_
   refine AW.region ?_
   refine AL.rp rfl rfl (rp_move rfl rfl) ?_
   refine AL.rp rfl rfl (rp_len_str Tryz.underlying9 rfl rfl) ?_
   (refine AL.rp rfl rfl (rp_gtrF rfl rfl rfl (by first | assumption | omega | (dsimp only; omega))) ?_)
   refine AL.nil ?_
   try simp only [thenS, S.put, List.nil_append, List.cons_append]
   refine AW.condF rfl ?_
   refine AW.skip ?_
   try simp only [thenS, List.nil_append, List.cons_append]
   refine AW.seq ?_
   refine AW.region ?_
   refine AL.rp rfl rfl (rp_move rfl rfl) ?_
   refine AL.call (post := ?pc2) rfl (sm_call (args := [_]) ?hc2 ⟨Tryz.func9, rfl, rfl, rfl, rfl⟩ rfl rfl rfl rfl) ?_
   case hc2 => exact hlines
   rintro _ rfl -
   try dsimp only
   refine AL.rp rfl rfl (rp_move rfl rfl) ?_
   refine AL.rp rfl rfl (rp_extract rfl rfl rfl) ?_
   refine AL.rp rfl rfl (rp_extract rfl rfl rfl) ?_
   refine AL.rp rfl rfl (rp_assign rfl rfl) ?_
   refine AL.rp rfl rfl (rp_assign rfl rfl) ?_
   refine AL.nil ?_
   try simp only [thenS, S.put, S.newObj, setL, V.cs, List.length_cons, List.length_nil, List.take_succ_cons, List.take_zero, List.drop_succ_cons, List.drop_zero, List.drop_nil, List.nil_append, List.cons_append, List.append_nil, Nat.zero_add, Nat.reduceAdd, List.map_cons, List.map_nil, List.set_cons_zero, List.set_cons_succ]
   refine AW.seq ?_
   refine AW.seq ?_
   refine AW.region ?_
   refine AL.rp rfl rfl (rp_move rfl rfl) ?_
   refine AL.rp rfl rfl (rp_not rfl rfl) ?_
   refine AL.rp rfl rfl (rp_move rfl rfl) ?_
   refine AL.rpy rfl rfl rfl (rp_move rfl rfl) ?_
   refine AL.rpy rfl rfl rfl (rp_len_map Tryz.underlying33 rfl rfl (by assumption)) ?_
   (refine AL.rpy rfl rfl rfl (rp_eqlF rfl rfl rfl (by first | assumption | omega | (dsimp only; omega))) ?_)
   refine AL.rp rfl rfl (rp_pick rfl rfl rfl) ?_
   refine AL.nil ?_
   try simp only [thenS, S.put, List.nil_append, List.cons_append]
   refine AW.condF rfl ?_
   refine AW.skip ?_
   try simp only [thenS, List.nil_append, List.cons_append]
   refine AW.seq ?_
   refine AW.region ?_
   refine AL.sm rfl (sm_alloc (l := [.d (.p (.int .i64 0)), .d (.p (.slice none 0 0))]) 6 inf24 rfl rfl rfl rfl) ?_
   refine AL.nil ?_
   try simp only [thenS, S.put, S.newObj, setL, V.cs, List.length_cons, List.length_nil, List.take_succ_cons, List.take_zero, List.drop_succ_cons, List.drop_zero, List.drop_nil, List.nil_append, List.cons_append, List.append_nil, Nat.zero_add, Nat.reduceAdd, List.map_cons, List.map_nil, List.set_cons_zero, List.set_cons_succ]
   refine AW.seq ?_
   refine AW.seq ?_
   refine AW.region ?_
   refine AL.rp rfl rfl (rp_assign rfl rfl) ?_
   refine AL.nil ?_
   try simp only [thenS, S.put, List.nil_append, List.cons_append]
   refine AW.block ?_
   refine AW.adoptH 6 1 901 2 42 rfl rfl rfl (by simp [S.clean, V.has, V.hasL, V.cs, setL]) ?_
   refine AW.loop (fun s' => ∃ (i : Nat) (m : Mach) (z : Bool), i ≤ n ∧ mR L i = some m ∧ szM i m ∧ z = m.states.isEmpty ∧ s' = ⟨170, [(2, .ref 2 0), (4, .d (strsD L)), (6, .ref 6 0), (7, .i i)], [(2, ⟨24, [.i 0, .nil], false, 0⟩), (6, ⟨24, [.i m.start, .own 901 2 m.states.length z], false, 0⟩), (901, ⟨42, FS.cells 1000 m.states, z, 2⟩)] ++ FS.objs 1000 m.states, []⟩) (fun s' => n - s'.nat 7) ⟨_, ?_, 0, ⟨0, []⟩, true, by omega, rfl, ⟨by simp, fun x hx => by cases hx⟩, rfl, rfl⟩ ?_
   ·exact (Less.of rfl (by repeat (first | exact trivial | refine ⟨⟨_, rfl, Wk.refl _⟩, ?_⟩ | refine ⟨⟨_, rfl, Wk.nil _ _⟩, ?_⟩ | refine ⟨⟨_, rfl, Wk.junk _⟩, ?_⟩)) (by repeat (first | exact trivial | refine ⟨rfl, ?_⟩ | exact LH.fam | refine LH.skip (by decide) ?_)) rfl)
   rintro s' ⟨i, ⟨st, sts⟩, z, hi, hm, hsz, hz, rfl⟩
   simp only at hz
   have hsz1 := hsz.1
   simp only at hsz1
   dsimp only
   by_cases hlt : i < n
   ·obtain ⟨u, hu⟩ := get_lt hn hlt
    have hul := hmem u (List.mem_of_getElem? hu)
    have hpx : Fn Tryz.prog 10 [.s (bs u)] (fun v => v = .d (strsD (prt u))) := am_RParts u hul
    have hsucc := mR_succ hm hu
    obtain ⟨p0, pr, hw0⟩ := prt_ne u
    have hwl := prt_len u
    obtain ⟨P, hP⟩ : ∃ P, prt u = P := ⟨_, rfl⟩
    rw [hP] at hpx hsucc hw0 hwl
    obtain ⟨NP, hNP⟩ : ∃ N, P.length = N := ⟨_, rfl⟩
    have hq0 : P[0]? = some p0 := by rw [hw0]; rfl
    rw [hNP] at hwl
    clear hw0 hP
    unfold lnA at hsucc
    rw [hq0, Option.getD_some, hNP] at hsucc
    have hbad' := hbad i hlt
    clear hbad
    by_cases hi0 : i = 0
    ·subst hi0
     cases hm
     obtain rfl : z = true := hz
     rw [if_pos rfl] at hsucc
     by_cases hh : NP = 2 ∧ p0 = wSt
     ·rw [if_pos hh] at hsucc
      obtain ⟨rfl, rfl⟩ := hh
      obtain ⟨p1, hq1⟩ : ∃ p1, P[1]? = some p1 := ⟨_, List.getElem?_eq_getElem (by omega)⟩
      rw [hq1, Option.getD_some] at hsucc
      have hc0 : bs wSt = ⟨#[115, 116, 97, 114, 116]⟩ := rfl
      by_cases hd : p1 = [45]
      ·rw [if_pos hd] at hsucc
       subst hd
       have hc1 : bs [45] = ⟨#[45]⟩ := rfl
       refine AW.seq ?_
       refine AW.seq ?_
       refine AW.region ?_
       refine AL.rp rfl rfl (rp_move rfl rfl) ?_
       refine AL.rp rfl rfl (rp_move rfl rfl) ?_
       refine AL.rp rfl rfl (rp_len_map Tryz.underlying33 rfl rfl (by assumption)) ?_
       (refine AL.rp rfl rfl (rp_lssT rfl rfl rfl (by first | assumption | omega | (dsimp only; omega))) ?_)
       refine AL.nil ?_
       try simp only [thenS, S.put, List.nil_append, List.cons_append]
       refine AW.condT rfl ?_
       refine AW.skip ?_
       try simp only [thenS, List.nil_append, List.cons_append]
       refine AW.seq ?_
       refine AW.block ?_
       refine AW.seq ?_
       refine AW.region ?_
       refine AL.rp rfl rfl (rp_move rfl rfl) ?_
       refine AL.rp rfl rfl (rp_move rfl rfl) ?_
       refine AL.rp rfl rfl (rp_index_map (k := 0) Tryz.underlying33 inf9 rfl rfl rfl (by omega) (by assumption)) ?_
       refine AL.rd rfl rfl (rd_load_ad Tryz.underlying9 rfl rfl rfl rfl) ?_
       refine AL.call (post := ?pc3) rfl (sm_call (args := [_]) ?hc3 ⟨Tryz.func10, rfl, rfl, rfl, rfl⟩ rfl rfl rfl rfl) ?_
       case hc3 => exact hpx
       rintro _ rfl -
       try dsimp only
       refine AL.rp rfl rfl (rp_assign rfl rfl) ?_
       refine AL.nil ?_
       try simp only [thenS, S.put, S.newObj, setL, V.cs, List.length_cons, List.length_nil, List.take_succ_cons, List.take_zero, List.drop_succ_cons, List.drop_zero, List.drop_nil, List.nil_append, List.cons_append, List.append_nil, Nat.zero_add, Nat.reduceAdd, List.map_cons, List.map_nil, List.set_cons_zero, List.set_cons_succ]
       refine AW.seq ?_
       refine AW.seq ?_
       refine AW.region ?_
       refine AL.rp rfl rfl (rp_move rfl rfl) ?_
       (refine AL.rp rfl rfl (rp_eqlT rfl rfl rfl (by first | assumption | omega | (dsimp only; omega))) ?_)
       refine AL.nil ?_
       try simp only [thenS, S.put, List.nil_append, List.cons_append]
       refine AW.condT rfl ?_
       refine AW.seq ?_
       refine AW.seq ?_
       refine AW.region ?_
       refine AL.rp rfl rfl (rp_move rfl rfl) ?_
       refine AL.rp rfl rfl (rp_len_map Tryz.underlying33 rfl rfl (by assumption)) ?_
       (refine AL.rp rfl rfl (rp_neqF rfl rfl rfl (by first | assumption | omega | (dsimp only; omega))) ?_)
       refine AL.rp rfl rfl (rp_move rfl rfl) ?_
       refine AL.rpy rfl rfl rfl (rp_move rfl rfl) ?_
       refine AL.rpy rfl rfl rfl (rp_index_map (k := 0) Tryz.underlying33 inf9 rfl rfl rfl (by omega) (by assumption)) ?_
       refine AL.rdy rfl rfl rfl (rd_load_ad Tryz.underlying9 rfl rfl rfl rfl) ?_
       refine AL.rpy rfl rfl rfl (rp_neqsF rfl rfl rfl (by assumption)) ?_
       refine AL.rp rfl rfl (rp_pick rfl rfl rfl) ?_
       refine AL.nil ?_
       try simp only [thenS, S.put, List.nil_append, List.cons_append]
       refine AW.condF rfl ?_
       refine AW.skip ?_
       try simp only [thenS, List.nil_append, List.cons_append]
       refine AW.seq ?_
       refine AW.region ?_
       refine AL.rp rfl rfl (rp_field_ref Tryz.underlying24 rfl rfl rfl inf3 (by decide) rfl) ?_
       (refine AL.st rfl (st_store inf3 rfl rfl rfl rfl rfl rfl rfl (by first | decide | (simp; done)) rfl) ?_)
       refine AL.nil ?_
       try simp only [thenS, S.put, S.newObj, setL, V.cs, List.length_cons, List.length_nil, List.take_succ_cons, List.take_zero, List.drop_succ_cons, List.drop_zero, List.drop_nil, List.nil_append, List.cons_append, List.append_nil, Nat.zero_add, Nat.reduceAdd, List.map_cons, List.map_nil, List.set_cons_zero, List.set_cons_succ]
       refine AW.seq ?_
       refine AW.seq ?_
       refine AW.region ?_
       refine AL.rp rfl rfl (rp_move rfl rfl) ?_
       refine AL.rp rfl rfl (rp_index_map (k := 1) Tryz.underlying33 inf9 rfl rfl rfl (by omega) (by assumption)) ?_
       refine AL.rd rfl rfl (rd_load_ad Tryz.underlying9 rfl rfl rfl rfl) ?_
       refine AL.rp rfl rfl (rp_neqsF rfl rfl rfl (by assumption)) ?_
       refine AL.nil ?_
       try simp only [thenS, S.put, List.nil_append, List.cons_append]
       refine AW.condF rfl ?_
       refine AW.skip ?_
       try simp only [thenS, List.nil_append, List.cons_append]
       refine AW.exit ?_
       try simp only [thenS, inBlockS, ↓reduceIte, Nat.reduceEqDiff, List.nil_append, List.cons_append]
       refine AW.region ?_
       refine AL.rp rfl rfl (rp_move rfl rfl) ?_
       refine AL.rp rfl rfl (rp_add rfl rfl rfl (by first | omega | (dsimp only; omega))) ?_
       refine AL.rp rfl rfl (rp_assign rfl rfl) ?_
       refine AL.nil ?_
       try simp only [thenS, S.put, List.nil_append, List.cons_append]
       refine ⟨_, ?_, ⟨1, ⟨-1, []⟩, true, by omega, hsucc, szM_st hsz, rfl, rfl⟩, ?_⟩
       ·exact (Less.of rfl (by repeat (first | exact trivial | refine ⟨⟨_, rfl, Wk.refl _⟩, ?_⟩ | refine ⟨⟨_, rfl, Wk.nil _ _⟩, ?_⟩ | refine ⟨⟨_, rfl, Wk.junk _⟩, ?_⟩)) (by repeat (first | exact trivial | refine ⟨rfl, ?_⟩ | exact LH.fam | refine LH.skip (by decide) ?_)) rfl)
       ·simp [S.nat, fnd]; omega
      ·rw [if_neg hd] at hsucc
       have hc1 : (bs p1).data.toList ≠ (⟨#[45]⟩ : ByteArray).data.toList := by rw [bs_list]; exact hd
       have hnum := am_NumberM 60 (by decide) (bs p1) p1 (bs_list p1)
       obtain ⟨v1, hv1⟩ : ∃ v, numM 60 p1 = v := ⟨_, rfl⟩
       rw [hv1] at hnum hsucc
       by_cases hneg : v1 < 0
       ·rw [if_pos hneg] at hsucc
        rw [hbad' hsucc]
        refine AW.seq ?_
        refine AW.seq ?_
        refine AW.region ?_
        refine AL.rp rfl rfl (rp_move rfl rfl) ?_
        refine AL.rp rfl rfl (rp_move rfl rfl) ?_
        refine AL.rp rfl rfl (rp_len_map Tryz.underlying33 rfl rfl (by assumption)) ?_
        (refine AL.rp rfl rfl (rp_lssT rfl rfl rfl (by first | assumption | omega | (dsimp only; omega))) ?_)
        refine AL.nil ?_
        try simp only [thenS, S.put, List.nil_append, List.cons_append]
        refine AW.condT rfl ?_
        refine AW.skip ?_
        try simp only [thenS, List.nil_append, List.cons_append]
        refine AW.seq ?_
        refine AW.block ?_
        refine AW.seq ?_
        refine AW.region ?_
        refine AL.rp rfl rfl (rp_move rfl rfl) ?_
        refine AL.rp rfl rfl (rp_move rfl rfl) ?_
        refine AL.rp rfl rfl (rp_index_map (k := 0) Tryz.underlying33 inf9 rfl rfl rfl (by omega) (by assumption)) ?_
        refine AL.rd rfl rfl (rd_load_ad Tryz.underlying9 rfl rfl rfl rfl) ?_
        refine AL.call (post := ?pc4) rfl (sm_call (args := [_]) ?hc4 ⟨Tryz.func10, rfl, rfl, rfl, rfl⟩ rfl rfl rfl rfl) ?_
        case hc4 => exact hpx
        rintro _ rfl -
        try dsimp only
        refine AL.rp rfl rfl (rp_assign rfl rfl) ?_
        refine AL.nil ?_
        try simp only [thenS, S.put, S.newObj, setL, V.cs, List.length_cons, List.length_nil, List.take_succ_cons, List.take_zero, List.drop_succ_cons, List.drop_zero, List.drop_nil, List.nil_append, List.cons_append, List.append_nil, Nat.zero_add, Nat.reduceAdd, List.map_cons, List.map_nil, List.set_cons_zero, List.set_cons_succ]
        refine AW.seq ?_
        refine AW.seq ?_
        refine AW.region ?_
        refine AL.rp rfl rfl (rp_move rfl rfl) ?_
        (refine AL.rp rfl rfl (rp_eqlT rfl rfl rfl (by first | assumption | omega | (dsimp only; omega))) ?_)
        refine AL.nil ?_
        try simp only [thenS, S.put, List.nil_append, List.cons_append]
        refine AW.condT rfl ?_
        refine AW.seq ?_
        refine AW.seq ?_
        refine AW.region ?_
        refine AL.rp rfl rfl (rp_move rfl rfl) ?_
        refine AL.rp rfl rfl (rp_len_map Tryz.underlying33 rfl rfl (by assumption)) ?_
        (refine AL.rp rfl rfl (rp_neqF rfl rfl rfl (by first | assumption | omega | (dsimp only; omega))) ?_)
        refine AL.rp rfl rfl (rp_move rfl rfl) ?_
        refine AL.rpy rfl rfl rfl (rp_move rfl rfl) ?_
        refine AL.rpy rfl rfl rfl (rp_index_map (k := 0) Tryz.underlying33 inf9 rfl rfl rfl (by omega) (by assumption)) ?_
        refine AL.rdy rfl rfl rfl (rd_load_ad Tryz.underlying9 rfl rfl rfl rfl) ?_
        refine AL.rpy rfl rfl rfl (rp_neqsF rfl rfl rfl (by assumption)) ?_
        refine AL.rp rfl rfl (rp_pick rfl rfl rfl) ?_
        refine AL.nil ?_
        try simp only [thenS, S.put, List.nil_append, List.cons_append]
        refine AW.condF rfl ?_
        refine AW.skip ?_
        try simp only [thenS, List.nil_append, List.cons_append]
        refine AW.seq ?_
        refine AW.region ?_
        refine AL.rp rfl rfl (rp_field_ref Tryz.underlying24 rfl rfl rfl inf3 (by decide) rfl) ?_
        (refine AL.st rfl (st_store inf3 rfl rfl rfl rfl rfl rfl rfl (by first | decide | (simp; done)) rfl) ?_)
        refine AL.nil ?_
        try simp only [thenS, S.put, S.newObj, setL, V.cs, List.length_cons, List.length_nil, List.take_succ_cons, List.take_zero, List.drop_succ_cons, List.drop_zero, List.drop_nil, List.nil_append, List.cons_append, List.append_nil, Nat.zero_add, Nat.reduceAdd, List.map_cons, List.map_nil, List.set_cons_zero, List.set_cons_succ]
        refine AW.seq ?_
        refine AW.seq ?_
        refine AW.region ?_
        refine AL.rp rfl rfl (rp_move rfl rfl) ?_
        refine AL.rp rfl rfl (rp_index_map (k := 1) Tryz.underlying33 inf9 rfl rfl rfl (by omega) (by assumption)) ?_
        refine AL.rd rfl rfl (rd_load_ad Tryz.underlying9 rfl rfl rfl rfl) ?_
        refine AL.rp rfl rfl (rp_neqsT rfl rfl rfl (by assumption)) ?_
        refine AL.nil ?_
        try simp only [thenS, S.put, List.nil_append, List.cons_append]
        refine AW.condT rfl ?_
        refine AW.seq ?_
        refine AW.region ?_
        refine AL.rp rfl rfl (rp_move rfl rfl) ?_
        refine AL.rp rfl rfl (rp_index_map (k := 1) Tryz.underlying33 inf9 rfl rfl rfl (by omega) (by assumption)) ?_
        refine AL.rd rfl rfl (rd_load_ad Tryz.underlying9 rfl rfl rfl rfl) ?_
        refine AL.call (post := ?pc5) rfl (sm_call (args := [_, _]) ?hc5 ⟨Tryz.func11, rfl, rfl, rfl, rfl⟩ rfl rfl rfl rfl) ?_
        case hc5 => exact hnum
        rintro _ rfl -
        try dsimp only
        refine AL.rp rfl rfl (rp_field_ref Tryz.underlying24 rfl rfl rfl inf3 (by decide) rfl) ?_
        (refine AL.st rfl (st_store inf3 rfl rfl rfl rfl rfl rfl rfl (by first | decide | (simp; done)) rfl) ?_)
        refine AL.nil ?_
        try simp only [thenS, S.put, S.newObj, setL, V.cs, List.length_cons, List.length_nil, List.take_succ_cons, List.take_zero, List.drop_succ_cons, List.drop_zero, List.drop_nil, List.nil_append, List.cons_append, List.append_nil, Nat.zero_add, Nat.reduceAdd, List.map_cons, List.map_nil, List.set_cons_zero, List.set_cons_succ]
        refine AW.seq ?_
        refine AW.region ?_
        refine AL.rp rfl rfl (rp_field_ref Tryz.underlying24 rfl rfl rfl inf3 (by decide) rfl) ?_
        refine AL.rd rfl rfl (rd_load_ref Tryz.underlying3 rfl rfl rfl rfl rfl rfl) ?_
        (refine AL.rp rfl rfl (rp_lssT rfl rfl rfl (by first | assumption | omega | (dsimp only; omega))) ?_)
        refine AL.nil ?_
        try simp only [thenS, S.put, List.nil_append, List.cons_append]
        refine AW.condT rfl ?_
        refine AW.seq ?_
        refine AW.region ?_
        refine AL.rp rfl rfl (rp_build (vs := []) (zs := [.d (.p (.int .i64 0)), .d (.p (.slice none 0 0))]) pl24 inf24 rfl rfl rfl rfl) ?_
        refine AL.st rfl (st_store_any inf24 rfl rfl rfl rfl rfl rfl rfl rfl (by first | decide | (simp; done) | (simp; omega)) rfl) ?_
        refine AL.rp rfl rfl (rp_assign rfl rfl) ?_
        refine AL.nil ?_
        try simp only [thenS, S.put, S.newObj, setL, V.cs, List.length_cons, List.length_nil, List.take_succ_cons, List.take_zero, List.drop_succ_cons, List.drop_zero, List.drop_nil, List.nil_append, List.cons_append, List.append_nil, Nat.zero_add, Nat.reduceAdd, List.map_cons, List.map_nil, List.set_cons_zero, List.set_cons_succ]
        refine AW.ret ?_
        exact ⟨[_, _], ⟨⟨2, 0, _, _, rfl, rfl, rfl, Tryz.underlying24, .inr ⟨rfl, _, _, _, _, inf24, rfl, rfl, rfl⟩⟩, rfl, trivial⟩, .inl ⟨by decide, rfl⟩, by simp [tupOf, V.pure, V.has, V.hasL]⟩
       ·rw [if_neg hneg] at hsucc
        refine AW.seq ?_
        refine AW.seq ?_
        refine AW.region ?_
        refine AL.rp rfl rfl (rp_move rfl rfl) ?_
        refine AL.rp rfl rfl (rp_move rfl rfl) ?_
        refine AL.rp rfl rfl (rp_len_map Tryz.underlying33 rfl rfl (by assumption)) ?_
        (refine AL.rp rfl rfl (rp_lssT rfl rfl rfl (by first | assumption | omega | (dsimp only; omega))) ?_)
        refine AL.nil ?_
        try simp only [thenS, S.put, List.nil_append, List.cons_append]
        refine AW.condT rfl ?_
        refine AW.skip ?_
        try simp only [thenS, List.nil_append, List.cons_append]
        refine AW.seq ?_
        refine AW.block ?_
        refine AW.seq ?_
        refine AW.region ?_
        refine AL.rp rfl rfl (rp_move rfl rfl) ?_
        refine AL.rp rfl rfl (rp_move rfl rfl) ?_
        refine AL.rp rfl rfl (rp_index_map (k := 0) Tryz.underlying33 inf9 rfl rfl rfl (by omega) (by assumption)) ?_
        refine AL.rd rfl rfl (rd_load_ad Tryz.underlying9 rfl rfl rfl rfl) ?_
        refine AL.call (post := ?pc6) rfl (sm_call (args := [_]) ?hc6 ⟨Tryz.func10, rfl, rfl, rfl, rfl⟩ rfl rfl rfl rfl) ?_
        case hc6 => exact hpx
        rintro _ rfl -
        try dsimp only
        refine AL.rp rfl rfl (rp_assign rfl rfl) ?_
        refine AL.nil ?_
        try simp only [thenS, S.put, S.newObj, setL, V.cs, List.length_cons, List.length_nil, List.take_succ_cons, List.take_zero, List.drop_succ_cons, List.drop_zero, List.drop_nil, List.nil_append, List.cons_append, List.append_nil, Nat.zero_add, Nat.reduceAdd, List.map_cons, List.map_nil, List.set_cons_zero, List.set_cons_succ]
        refine AW.seq ?_
        refine AW.seq ?_
        refine AW.region ?_
        refine AL.rp rfl rfl (rp_move rfl rfl) ?_
        (refine AL.rp rfl rfl (rp_eqlT rfl rfl rfl (by first | assumption | omega | (dsimp only; omega))) ?_)
        refine AL.nil ?_
        try simp only [thenS, S.put, List.nil_append, List.cons_append]
        refine AW.condT rfl ?_
        refine AW.seq ?_
        refine AW.seq ?_
        refine AW.region ?_
        refine AL.rp rfl rfl (rp_move rfl rfl) ?_
        refine AL.rp rfl rfl (rp_len_map Tryz.underlying33 rfl rfl (by assumption)) ?_
        (refine AL.rp rfl rfl (rp_neqF rfl rfl rfl (by first | assumption | omega | (dsimp only; omega))) ?_)
        refine AL.rp rfl rfl (rp_move rfl rfl) ?_
        refine AL.rpy rfl rfl rfl (rp_move rfl rfl) ?_
        refine AL.rpy rfl rfl rfl (rp_index_map (k := 0) Tryz.underlying33 inf9 rfl rfl rfl (by omega) (by assumption)) ?_
        refine AL.rdy rfl rfl rfl (rd_load_ad Tryz.underlying9 rfl rfl rfl rfl) ?_
        refine AL.rpy rfl rfl rfl (rp_neqsF rfl rfl rfl (by assumption)) ?_
        refine AL.rp rfl rfl (rp_pick rfl rfl rfl) ?_
        refine AL.nil ?_
        try simp only [thenS, S.put, List.nil_append, List.cons_append]
        refine AW.condF rfl ?_
        refine AW.skip ?_
        try simp only [thenS, List.nil_append, List.cons_append]
        refine AW.seq ?_
        refine AW.region ?_
        refine AL.rp rfl rfl (rp_field_ref Tryz.underlying24 rfl rfl rfl inf3 (by decide) rfl) ?_
        (refine AL.st rfl (st_store inf3 rfl rfl rfl rfl rfl rfl rfl (by first | decide | (simp; done)) rfl) ?_)
        refine AL.nil ?_
        try simp only [thenS, S.put, S.newObj, setL, V.cs, List.length_cons, List.length_nil, List.take_succ_cons, List.take_zero, List.drop_succ_cons, List.drop_zero, List.drop_nil, List.nil_append, List.cons_append, List.append_nil, Nat.zero_add, Nat.reduceAdd, List.map_cons, List.map_nil, List.set_cons_zero, List.set_cons_succ]
        refine AW.seq ?_
        refine AW.seq ?_
        refine AW.region ?_
        refine AL.rp rfl rfl (rp_move rfl rfl) ?_
        refine AL.rp rfl rfl (rp_index_map (k := 1) Tryz.underlying33 inf9 rfl rfl rfl (by omega) (by assumption)) ?_
        refine AL.rd rfl rfl (rd_load_ad Tryz.underlying9 rfl rfl rfl rfl) ?_
        refine AL.rp rfl rfl (rp_neqsT rfl rfl rfl (by assumption)) ?_
        refine AL.nil ?_
        try simp only [thenS, S.put, List.nil_append, List.cons_append]
        refine AW.condT rfl ?_
        refine AW.seq ?_
        refine AW.region ?_
        refine AL.rp rfl rfl (rp_move rfl rfl) ?_
        refine AL.rp rfl rfl (rp_index_map (k := 1) Tryz.underlying33 inf9 rfl rfl rfl (by omega) (by assumption)) ?_
        refine AL.rd rfl rfl (rd_load_ad Tryz.underlying9 rfl rfl rfl rfl) ?_
        refine AL.call (post := ?pc7) rfl (sm_call (args := [_, _]) ?hc7 ⟨Tryz.func11, rfl, rfl, rfl, rfl⟩ rfl rfl rfl rfl) ?_
        case hc7 => exact hnum
        rintro _ rfl -
        try dsimp only
        refine AL.rp rfl rfl (rp_field_ref Tryz.underlying24 rfl rfl rfl inf3 (by decide) rfl) ?_
        (refine AL.st rfl (st_store inf3 rfl rfl rfl rfl rfl rfl rfl (by first | decide | (simp; done)) rfl) ?_)
        refine AL.nil ?_
        try simp only [thenS, S.put, S.newObj, setL, V.cs, List.length_cons, List.length_nil, List.take_succ_cons, List.take_zero, List.drop_succ_cons, List.drop_zero, List.drop_nil, List.nil_append, List.cons_append, List.append_nil, Nat.zero_add, Nat.reduceAdd, List.map_cons, List.map_nil, List.set_cons_zero, List.set_cons_succ]
        refine AW.seq ?_
        refine AW.region ?_
        refine AL.rp rfl rfl (rp_field_ref Tryz.underlying24 rfl rfl rfl inf3 (by decide) rfl) ?_
        refine AL.rd rfl rfl (rd_load_ref Tryz.underlying3 rfl rfl rfl rfl rfl rfl) ?_
        (refine AL.rp rfl rfl (rp_lssF rfl rfl rfl (by first | assumption | omega | (dsimp only; omega))) ?_)
        refine AL.nil ?_
        try simp only [thenS, S.put, List.nil_append, List.cons_append]
        refine AW.condF rfl ?_
        refine AW.skip ?_
        try simp only [thenS, List.nil_append, List.cons_append]
        refine AW.exit ?_
        try simp only [thenS, inBlockS, ↓reduceIte, Nat.reduceEqDiff, List.nil_append, List.cons_append]
        refine AW.region ?_
        refine AL.rp rfl rfl (rp_move rfl rfl) ?_
        refine AL.rp rfl rfl (rp_add rfl rfl rfl (by first | omega | (dsimp only; omega))) ?_
        refine AL.rp rfl rfl (rp_assign rfl rfl) ?_
        refine AL.nil ?_
        try simp only [thenS, S.put, List.nil_append, List.cons_append]
        refine ⟨_, ?_, ⟨1, ⟨v1, []⟩, true, by omega, hsucc, szM_st hsz, rfl, rfl⟩, ?_⟩
        ·exact (Less.of rfl (by repeat (first | exact trivial | refine ⟨⟨_, rfl, Wk.refl _⟩, ?_⟩ | refine ⟨⟨_, rfl, Wk.nil _ _⟩, ?_⟩ | refine ⟨⟨_, rfl, Wk.junk _⟩, ?_⟩)) (by repeat (first | exact trivial | refine ⟨rfl, ?_⟩ | exact LH.fam | refine LH.skip (by decide) ?_)) rfl)
        ·simp [S.nat, fnd]; omega
     ·rw [if_neg hh] at hsucc
      rw [hbad' hsucc]
      by_cases h2 : NP = 2
      ·have hc0 : (bs p0).data.toList ≠ (⟨#[115, 116, 97, 114, 116]⟩ : ByteArray).data.toList := by rw [bs_list]; exact fun h => hh ⟨h2, h⟩
       refine AW.seq ?_
       refine AW.seq ?_
       refine AW.region ?_
       refine AL.rp rfl rfl (rp_move rfl rfl) ?_
       refine AL.rp rfl rfl (rp_move rfl rfl) ?_
       refine AL.rp rfl rfl (rp_len_map Tryz.underlying33 rfl rfl (by assumption)) ?_
       (refine AL.rp rfl rfl (rp_lssT rfl rfl rfl (by first | assumption | omega | (dsimp only; omega))) ?_)
       refine AL.nil ?_
       try simp only [thenS, S.put, List.nil_append, List.cons_append]
       refine AW.condT rfl ?_
       refine AW.skip ?_
       try simp only [thenS, List.nil_append, List.cons_append]
       refine AW.seq ?_
       refine AW.block ?_
       refine AW.seq ?_
       refine AW.region ?_
       refine AL.rp rfl rfl (rp_move rfl rfl) ?_
       refine AL.rp rfl rfl (rp_move rfl rfl) ?_
       refine AL.rp rfl rfl (rp_index_map (k := 0) Tryz.underlying33 inf9 rfl rfl rfl (by omega) (by assumption)) ?_
       refine AL.rd rfl rfl (rd_load_ad Tryz.underlying9 rfl rfl rfl rfl) ?_
       refine AL.call (post := ?pc8) rfl (sm_call (args := [_]) ?hc8 ⟨Tryz.func10, rfl, rfl, rfl, rfl⟩ rfl rfl rfl rfl) ?_
       case hc8 => exact hpx
       rintro _ rfl -
       try dsimp only
       refine AL.rp rfl rfl (rp_assign rfl rfl) ?_
       refine AL.nil ?_
       try simp only [thenS, S.put, S.newObj, setL, V.cs, List.length_cons, List.length_nil, List.take_succ_cons, List.take_zero, List.drop_succ_cons, List.drop_zero, List.drop_nil, List.nil_append, List.cons_append, List.append_nil, Nat.zero_add, Nat.reduceAdd, List.map_cons, List.map_nil, List.set_cons_zero, List.set_cons_succ]
       refine AW.seq ?_
       refine AW.seq ?_
       refine AW.region ?_
       refine AL.rp rfl rfl (rp_move rfl rfl) ?_
       (refine AL.rp rfl rfl (rp_eqlT rfl rfl rfl (by first | assumption | omega | (dsimp only; omega))) ?_)
       refine AL.nil ?_
       try simp only [thenS, S.put, List.nil_append, List.cons_append]
       refine AW.condT rfl ?_
       refine AW.seq ?_
       refine AW.seq ?_
       refine AW.region ?_
       refine AL.rp rfl rfl (rp_move rfl rfl) ?_
       refine AL.rp rfl rfl (rp_len_map Tryz.underlying33 rfl rfl (by assumption)) ?_
       (refine AL.rp rfl rfl (rp_neqF rfl rfl rfl (by first | assumption | omega | (dsimp only; omega))) ?_)
       refine AL.rp rfl rfl (rp_move rfl rfl) ?_
       refine AL.rpy rfl rfl rfl (rp_move rfl rfl) ?_
       refine AL.rpy rfl rfl rfl (rp_index_map (k := 0) Tryz.underlying33 inf9 rfl rfl rfl (by omega) (by assumption)) ?_
       refine AL.rdy rfl rfl rfl (rd_load_ad Tryz.underlying9 rfl rfl rfl rfl) ?_
       refine AL.rpy rfl rfl rfl (rp_neqsT rfl rfl rfl (by assumption)) ?_
       refine AL.rp rfl rfl (rp_pick rfl rfl rfl) ?_
       refine AL.nil ?_
       try simp only [thenS, S.put, List.nil_append, List.cons_append]
       refine AW.condT rfl ?_
       refine AW.seq ?_
       refine AW.region ?_
       refine AL.rp rfl rfl (rp_build (vs := []) (zs := [.d (.p (.int .i64 0)), .d (.p (.slice none 0 0))]) pl24 inf24 rfl rfl rfl rfl) ?_
       refine AL.st rfl (st_store_any inf24 rfl rfl rfl rfl rfl rfl rfl rfl (by first | decide | (simp; done) | (simp; omega)) rfl) ?_
       refine AL.rp rfl rfl (rp_assign rfl rfl) ?_
       refine AL.nil ?_
       try simp only [thenS, S.put, S.newObj, setL, V.cs, List.length_cons, List.length_nil, List.take_succ_cons, List.take_zero, List.drop_succ_cons, List.drop_zero, List.drop_nil, List.nil_append, List.cons_append, List.append_nil, Nat.zero_add, Nat.reduceAdd, List.map_cons, List.map_nil, List.set_cons_zero, List.set_cons_succ]
       refine AW.ret ?_
       exact ⟨[_, _], ⟨⟨2, 0, _, _, rfl, rfl, rfl, Tryz.underlying24, .inr ⟨rfl, _, _, _, _, inf24, rfl, rfl, rfl⟩⟩, rfl, trivial⟩, .inl ⟨by decide, rfl⟩, by simp [tupOf, V.pure, V.has, V.hasL]⟩
      ·skip
       refine AW.seq ?_
       refine AW.seq ?_
       refine AW.region ?_
       refine AL.rp rfl rfl (rp_move rfl rfl) ?_
       refine AL.rp rfl rfl (rp_move rfl rfl) ?_
       refine AL.rp rfl rfl (rp_len_map Tryz.underlying33 rfl rfl (by assumption)) ?_
       (refine AL.rp rfl rfl (rp_lssT rfl rfl rfl (by first | assumption | omega | (dsimp only; omega))) ?_)
       refine AL.nil ?_
       try simp only [thenS, S.put, List.nil_append, List.cons_append]
       refine AW.condT rfl ?_
       refine AW.skip ?_
       try simp only [thenS, List.nil_append, List.cons_append]
       refine AW.seq ?_
       refine AW.block ?_
       refine AW.seq ?_
       refine AW.region ?_
       refine AL.rp rfl rfl (rp_move rfl rfl) ?_
       refine AL.rp rfl rfl (rp_move rfl rfl) ?_
       refine AL.rp rfl rfl (rp_index_map (k := 0) Tryz.underlying33 inf9 rfl rfl rfl (by omega) (by assumption)) ?_
       refine AL.rd rfl rfl (rd_load_ad Tryz.underlying9 rfl rfl rfl rfl) ?_
       refine AL.call (post := ?pc9) rfl (sm_call (args := [_]) ?hc9 ⟨Tryz.func10, rfl, rfl, rfl, rfl⟩ rfl rfl rfl rfl) ?_
       case hc9 => exact hpx
       rintro _ rfl -
       try dsimp only
       refine AL.rp rfl rfl (rp_assign rfl rfl) ?_
       refine AL.nil ?_
       try simp only [thenS, S.put, S.newObj, setL, V.cs, List.length_cons, List.length_nil, List.take_succ_cons, List.take_zero, List.drop_succ_cons, List.drop_zero, List.drop_nil, List.nil_append, List.cons_append, List.append_nil, Nat.zero_add, Nat.reduceAdd, List.map_cons, List.map_nil, List.set_cons_zero, List.set_cons_succ]
       refine AW.seq ?_
       refine AW.seq ?_
       refine AW.region ?_
       refine AL.rp rfl rfl (rp_move rfl rfl) ?_
       (refine AL.rp rfl rfl (rp_eqlT rfl rfl rfl (by first | assumption | omega | (dsimp only; omega))) ?_)
       refine AL.nil ?_
       try simp only [thenS, S.put, List.nil_append, List.cons_append]
       refine AW.condT rfl ?_
       refine AW.seq ?_
       refine AW.seq ?_
       refine AW.region ?_
       refine AL.rp rfl rfl (rp_move rfl rfl) ?_
       refine AL.rp rfl rfl (rp_len_map Tryz.underlying33 rfl rfl (by assumption)) ?_
       (refine AL.rp rfl rfl (rp_neqT rfl rfl rfl (by first | assumption | omega | (dsimp only; omega))) ?_)
       refine AL.rp rfl rfl (rp_move rfl rfl) ?_
       refine AL.noV rfl rfl rfl rfl ?_
       refine AL.noV rfl rfl rfl rfl ?_
       refine AL.noV rfl rfl rfl rfl ?_
       refine AL.noV rfl rfl rfl rfl ?_
       refine AL.rp rfl rfl (rp_pick rfl rfl rfl) ?_
       refine AL.nil ?_
       try simp only [thenS, S.put, List.nil_append, List.cons_append]
       refine AW.condT rfl ?_
       refine AW.seq ?_
       refine AW.region ?_
       refine AL.rp rfl rfl (rp_build (vs := []) (zs := [.d (.p (.int .i64 0)), .d (.p (.slice none 0 0))]) pl24 inf24 rfl rfl rfl rfl) ?_
       refine AL.st rfl (st_store_any inf24 rfl rfl rfl rfl rfl rfl rfl rfl (by first | decide | (simp; done) | (simp; omega)) rfl) ?_
       refine AL.rp rfl rfl (rp_assign rfl rfl) ?_
       refine AL.nil ?_
       try simp only [thenS, S.put, S.newObj, setL, V.cs, List.length_cons, List.length_nil, List.take_succ_cons, List.take_zero, List.drop_succ_cons, List.drop_zero, List.drop_nil, List.nil_append, List.cons_append, List.append_nil, Nat.zero_add, Nat.reduceAdd, List.map_cons, List.map_nil, List.set_cons_zero, List.set_cons_succ]
       refine AW.ret ?_
       exact ⟨[_, _], ⟨⟨2, 0, _, _, rfl, rfl, rfl, Tryz.underlying24, .inr ⟨rfl, _, _, _, _, inf24, rfl, rfl, rfl⟩⟩, rfl, trivial⟩, .inl ⟨by decide, rfl⟩, by simp [tupOf, V.pure, V.has, V.hasL]⟩
    ·rw [if_neg hi0] at hsucc
     by_cases hs : p0 = wSa ∧ NP = 2
     ·rw [if_pos hs] at hsucc
      obtain ⟨rfl, rfl⟩ := hs
      obtain ⟨p1, hq1⟩ : ∃ p1, P[1]? = some p1 := ⟨_, List.getElem?_eq_getElem (by omega)⟩
      rw [hq1, Option.getD_some] at hsucc
      have hc0 : bs wSa = ⟨#[115, 116, 97, 116, 101]⟩ := rfl
      have hwr := am_refRead (bs p1) p1 (bs_list p1)
      obtain ⟨e1, he1⟩ : ∃ v, rdE p1 = v := ⟨_, rfl⟩
      obtain ⟨x1, hx1⟩ : ∃ v, rdX p1 = v := ⟨_, rfl⟩
      rw [he1, hx1] at hwr hsucc
      by_cases h0 : e1 = 0
      ·rw [if_pos h0] at hsucc
       subst h0
       refine AW.seq ?_
       refine AW.seq ?_
       refine AW.region ?_
       refine AL.rp rfl rfl (rp_move rfl rfl) ?_
       refine AL.rp rfl rfl (rp_move rfl rfl) ?_
       refine AL.rp rfl rfl (rp_len_map Tryz.underlying33 rfl rfl (by assumption)) ?_
       (refine AL.rp rfl rfl (rp_lssT rfl rfl rfl (by first | assumption | omega | (dsimp only; omega))) ?_)
       refine AL.nil ?_
       try simp only [thenS, S.put, List.nil_append, List.cons_append]
       refine AW.condT rfl ?_
       refine AW.skip ?_
       try simp only [thenS, List.nil_append, List.cons_append]
       refine AW.seq ?_
       refine AW.block ?_
       refine AW.seq ?_
       refine AW.region ?_
       refine AL.rp rfl rfl (rp_move rfl rfl) ?_
       refine AL.rp rfl rfl (rp_move rfl rfl) ?_
       refine AL.rp rfl rfl (rp_index_map (k := i) Tryz.underlying33 inf9 rfl rfl rfl (by omega) (by assumption)) ?_
       refine AL.rd rfl rfl (rd_load_ad Tryz.underlying9 rfl rfl rfl rfl) ?_
       refine AL.call (post := ?pc10) rfl (sm_call (args := [_]) ?hc10 ⟨Tryz.func10, rfl, rfl, rfl, rfl⟩ rfl rfl rfl rfl) ?_
       case hc10 => exact hpx
       rintro _ rfl -
       try dsimp only
       refine AL.rp rfl rfl (rp_assign rfl rfl) ?_
       refine AL.nil ?_
       try simp only [thenS, S.put, S.newObj, setL, V.cs, List.length_cons, List.length_nil, List.take_succ_cons, List.take_zero, List.drop_succ_cons, List.drop_zero, List.drop_nil, List.nil_append, List.cons_append, List.append_nil, Nat.zero_add, Nat.reduceAdd, List.map_cons, List.map_nil, List.set_cons_zero, List.set_cons_succ]
       refine AW.seq ?_
       refine AW.seq ?_
       refine AW.region ?_
       refine AL.rp rfl rfl (rp_move rfl rfl) ?_
       (refine AL.rp rfl rfl (rp_eqlF rfl rfl rfl (by first | assumption | omega | (dsimp only; omega))) ?_)
       refine AL.nil ?_
       try simp only [thenS, S.put, List.nil_append, List.cons_append]
       refine AW.condF rfl ?_
       refine AW.skip ?_
       try simp only [thenS, List.nil_append, List.cons_append]
       refine AW.seq ?_
       refine AW.seq ?_
       refine AW.region ?_
       refine AL.rp rfl rfl (rp_move rfl rfl) ?_
       refine AL.rp rfl rfl (rp_index_map (k := 0) Tryz.underlying33 inf9 rfl rfl rfl (by omega) (by assumption)) ?_
       refine AL.rd rfl rfl (rd_load_ad Tryz.underlying9 rfl rfl rfl rfl) ?_
       refine AL.rp rfl rfl (rp_eqlsT rfl rfl rfl (by assumption)) ?_
       refine AL.rp rfl rfl (rp_move rfl rfl) ?_
       refine AL.rpy rfl rfl rfl (rp_move rfl rfl) ?_
       refine AL.rpy rfl rfl rfl (rp_len_map Tryz.underlying33 rfl rfl (by assumption)) ?_
       (refine AL.rpy rfl rfl rfl (rp_eqlT rfl rfl rfl (by first | assumption | omega | (dsimp only; omega))) ?_)
       refine AL.rp rfl rfl (rp_pick rfl rfl rfl) ?_
       refine AL.nil ?_
       try simp only [thenS, S.put, List.nil_append, List.cons_append]
       refine AW.condT rfl ?_
       refine AW.seq ?_
       refine AW.region ?_
       refine AL.rp rfl rfl (rp_move rfl rfl) ?_
       refine AL.rp rfl rfl (rp_index_map (k := 1) Tryz.underlying33 inf9 rfl rfl rfl (by omega) (by assumption)) ?_
       refine AL.rd rfl rfl (rd_load_ad Tryz.underlying9 rfl rfl rfl rfl) ?_
       refine AL.call (post := ?pc11) rfl (sm_call (args := [_]) ?hc11 ⟨Tryz.func12, rfl, rfl, rfl, rfl⟩ rfl rfl rfl rfl) ?_
       case hc11 => exact hwr
       rintro _ rfl -
       try dsimp only
       refine AL.rp rfl rfl (rp_move rfl rfl) ?_
       refine AL.rp rfl rfl (rp_extract rfl rfl rfl) ?_
       refine AL.rp rfl rfl (rp_extract rfl rfl rfl) ?_
       refine AL.rp rfl rfl (rp_assign rfl rfl) ?_
       refine AL.rp rfl rfl (rp_assign rfl rfl) ?_
       refine AL.nil ?_
       try simp only [thenS, S.put, S.newObj, setL, V.cs, List.length_cons, List.length_nil, List.take_succ_cons, List.take_zero, List.drop_succ_cons, List.drop_zero, List.drop_nil, List.nil_append, List.cons_append, List.append_nil, Nat.zero_add, Nat.reduceAdd, List.map_cons, List.map_nil, List.set_cons_zero, List.set_cons_succ]
       refine AW.seq ?_
       refine AW.seq ?_
       refine AW.region ?_
       refine AL.rp rfl rfl (rp_move rfl rfl) ?_
       (refine AL.rp rfl rfl (rp_neqF rfl rfl rfl (by first | assumption | omega | (dsimp only; omega))) ?_)
       refine AL.nil ?_
       try simp only [thenS, S.put, List.nil_append, List.cons_append]
       refine AW.condF rfl ?_
       refine AW.skip ?_
       try simp only [thenS, List.nil_append, List.cons_append]
       refine AW.seq ?_
       refine AW.region ?_
       refine AL.rp rfl rfl (rp_field_ref Tryz.underlying24 rfl rfl rfl inf22 (by decide) rfl) ?_
       refine AL.rd rfl rfl (rd_load_ref Tryz.underlying22 rfl rfl rfl rfl rfl rfl) ?_
       refine AL.rp rfl rfl (rp_move rfl rfl) ?_
       refine AL.rp rfl rfl (rp_build (vs := [(0, _)]) (zs := [.d (.p (.int .i64 0)), .d (.p (.slice none 0 0))]) pl42 inf42 rfl rfl rfl rfl) ?_
       refine AL.sm rfl (sm_slice (vs := [(0, _)]) (zs := [.d (.p (.int .i64 0)), .d (.p (.slice none 0 0))]) 93 Tryz.underlying22 inf42 rfl rfl (by decide) (by decide) (by decide) rfl rfl rfl rfl (by first | rfl | (simp only [S.clean, S.put, S.newObj, List.all_cons, objs_clean_low, Nat.reduceLT]; simp [S.forget, V.has, V.hasL, junkIf, setL, V.cs, hasL_i, hasL_b, hasL_s, hasL_n, hasL_rep, hasL_flat, hasL_append, cells_hasL_low, has_ownV, hasL_frep, nb1, nb2, nb3, nb4, -List.map_set]; try omega)) rfl rfl) ?_
       refine AL.st rfl (st_appendF Tryz.underlying22 inf42 rfl (by decide) rfl rfl rfl rfl rfl rfl (by first | assumption | rfl | (simp; done)) (by first | rfl | (simp only [S.clean, S.put, S.newObj, List.all_cons, objs_clean_low, Nat.reduceLT]; simp [S.forget, V.has, V.hasL, junkIf, setL, V.cs, hasL_i, hasL_b, hasL_s, hasL_n, hasL_rep, hasL_flat, hasL_append, cells_hasL_low, has_ownV, hasL_frep, nb1, nb2, nb3, nb4, -List.map_set]; try omega)) rfl rfl rfl rfl rfl rfl rfl (by decide) (by omega) (by omega) rfl) ?_
       simp only [objs_filter_low, Fam.objs_forget, cells_hasL_low, has_ownV, nb3, nb4, Nat.reduceLT, S.forget, S.put, S.newObj, junkIf, V.has, V.hasL, hasL_i, hasL_b, hasL_s, hasL_d, hasL_n, hasL_rep, hasL_flat, hasL_append, List.map_cons, List.map_nil, List.filter_cons, List.filter_nil, Nat.reduceBNe, Nat.reduceBEq, eq_self, bne_self_eq_false,  Bool.not_true, Bool.not_false, Bool.or_false, Bool.or_true, Bool.false_or, Bool.true_or, if_true, if_false, Bool.false_eq_true, ite_true, ite_false, ↓reduceIte, beq_self_eq_true, Nat.reduceEqDiff]
       refine AL.rp rfl rfl (rp_field_ref Tryz.underlying24 rfl rfl rfl inf22 (by decide) rfl) ?_
       (refine AL.st rfl (st_store inf22 rfl rfl rfl rfl rfl rfl rfl (by first | decide | (simp; done)) rfl) ?_)
       refine AL.nil ?_
       try simp only [thenS, S.put, S.newObj, setL, V.cs, List.length_cons, List.length_nil, List.take_succ_cons, List.take_zero, List.drop_succ_cons, List.drop_zero, List.drop_nil, List.nil_append, List.cons_append, List.append_nil, Nat.zero_add, Nat.reduceAdd, List.map_cons, List.map_nil, List.set_cons_zero, List.set_cons_succ]
       refine AW.exit ?_
       try simp only [thenS, inBlockS, ↓reduceIte, Nat.reduceEqDiff, List.nil_append, List.cons_append]
       refine AW.less (s' := ⟨170, [(2, .ref 2 0), (4, .d (strsD L)), (6, .ref 6 0), (7, .i i)], [(2, ⟨24, [.i 0, .nil], false, 0⟩), (6, ⟨24, [.i st, .own 901 2 (sts.length + 1) false], false, 0⟩), (901, ⟨42, FS.cells 1000 sts ++ [.i x1, .nil], false, 2⟩)] ++ FS.objs 1000 sts, []⟩) (Less.of rfl (by repeat (first | exact trivial | refine ⟨⟨_, rfl, Wk.refl _⟩, ?_⟩ | refine ⟨⟨_, rfl, Wk.nil _ _⟩, ?_⟩ | refine ⟨⟨_, rfl, Wk.junk _⟩, ?_⟩)) (by repeat (first | exact trivial | refine ⟨rfl, ?_⟩ | exact LH.fam | refine LH.skip (by decide) ?_)) rfl) ?_
       refine AW.adoptH 901 (sts.length * 2 + 1) 900 4 44 rfl rfl (fs_nil _ _ _) (by simp [S.clean, V.has, V.hasL, V.cs, setL, hasL_append, cells_hasL_low, objs_clean_low, fs_cells_len]) ?_
       refine AW.famPush (F := FS) [_, _, _, _, _] 901 900 ⟨x1, []⟩ rfl rfl rfl rfl (fs_set _ _ _ _) (by decide) rfl (by simp [V.hasL, V.has]) rfl rfl (by intro y hy _ r hr; simp only [List.mem_cons, List.not_mem_nil, or_false] at hy; rcases hy with rfl | rfl | rfl | rfl | rfl <;> first | (simp [V.hasL, V.has]; omega) | simp_all [V.hasL, V.has]) rfl rfl ?_
       simp only [List.filter_cons, List.filter_nil, Nat.reduceBNe, bne_self_eq_false, if_true, if_false, Bool.false_eq_true, ↓reduceIte, List.cons_append, List.nil_append]
       refine AW.region ?_
       refine AL.rp rfl rfl (rp_move rfl rfl) ?_
       refine AL.rp rfl rfl (rp_add rfl rfl rfl (by first | omega | (dsimp only; omega))) ?_
       refine AL.rp rfl rfl (rp_assign rfl rfl) ?_
       refine AL.nil ?_
       try simp only [thenS, S.put, List.nil_append, List.cons_append]
       refine ⟨_, ?_, ⟨i + 1, ⟨st, sts ++ [⟨x1, []⟩]⟩, false, by omega, hsucc, szM_app hsz, by simp, rfl⟩, ?_⟩
       ·rw [show (sts ++ [(⟨x1, []⟩ : St)]).length = sts.length + 1 by simp]
        exact (Less.of rfl (by repeat (first | exact trivial | refine ⟨⟨_, rfl, Wk.refl _⟩, ?_⟩ | refine ⟨⟨_, rfl, Wk.nil _ _⟩, ?_⟩ | refine ⟨⟨_, rfl, Wk.junk _⟩, ?_⟩)) (by repeat (first | exact trivial | refine ⟨rfl, ?_⟩ | exact LH.fam | refine LH.skip (by decide) ?_)) rfl)
       ·simp [S.nat, fnd]; omega
      ·rw [if_neg h0] at hsucc
       rw [hbad' hsucc]
       refine AW.seq ?_
       refine AW.seq ?_
       refine AW.region ?_
       refine AL.rp rfl rfl (rp_move rfl rfl) ?_
       refine AL.rp rfl rfl (rp_move rfl rfl) ?_
       refine AL.rp rfl rfl (rp_len_map Tryz.underlying33 rfl rfl (by assumption)) ?_
       (refine AL.rp rfl rfl (rp_lssT rfl rfl rfl (by first | assumption | omega | (dsimp only; omega))) ?_)
       refine AL.nil ?_
       try simp only [thenS, S.put, List.nil_append, List.cons_append]
       refine AW.condT rfl ?_
       refine AW.skip ?_
       try simp only [thenS, List.nil_append, List.cons_append]
       refine AW.seq ?_
       refine AW.block ?_
       refine AW.seq ?_
       refine AW.region ?_
       refine AL.rp rfl rfl (rp_move rfl rfl) ?_
       refine AL.rp rfl rfl (rp_move rfl rfl) ?_
       refine AL.rp rfl rfl (rp_index_map (k := i) Tryz.underlying33 inf9 rfl rfl rfl (by omega) (by assumption)) ?_
       refine AL.rd rfl rfl (rd_load_ad Tryz.underlying9 rfl rfl rfl rfl) ?_
       refine AL.call (post := ?pc12) rfl (sm_call (args := [_]) ?hc12 ⟨Tryz.func10, rfl, rfl, rfl, rfl⟩ rfl rfl rfl rfl) ?_
       case hc12 => exact hpx
       rintro _ rfl -
       try dsimp only
       refine AL.rp rfl rfl (rp_assign rfl rfl) ?_
       refine AL.nil ?_
       try simp only [thenS, S.put, S.newObj, setL, V.cs, List.length_cons, List.length_nil, List.take_succ_cons, List.take_zero, List.drop_succ_cons, List.drop_zero, List.drop_nil, List.nil_append, List.cons_append, List.append_nil, Nat.zero_add, Nat.reduceAdd, List.map_cons, List.map_nil, List.set_cons_zero, List.set_cons_succ]
       refine AW.seq ?_
       refine AW.seq ?_
       refine AW.region ?_
       refine AL.rp rfl rfl (rp_move rfl rfl) ?_
       (refine AL.rp rfl rfl (rp_eqlF rfl rfl rfl (by first | assumption | omega | (dsimp only; omega))) ?_)
       refine AL.nil ?_
       try simp only [thenS, S.put, List.nil_append, List.cons_append]
       refine AW.condF rfl ?_
       refine AW.skip ?_
       try simp only [thenS, List.nil_append, List.cons_append]
       refine AW.seq ?_
       refine AW.seq ?_
       refine AW.region ?_
       refine AL.rp rfl rfl (rp_move rfl rfl) ?_
       refine AL.rp rfl rfl (rp_index_map (k := 0) Tryz.underlying33 inf9 rfl rfl rfl (by omega) (by assumption)) ?_
       refine AL.rd rfl rfl (rd_load_ad Tryz.underlying9 rfl rfl rfl rfl) ?_
       refine AL.rp rfl rfl (rp_eqlsT rfl rfl rfl (by assumption)) ?_
       refine AL.rp rfl rfl (rp_move rfl rfl) ?_
       refine AL.rpy rfl rfl rfl (rp_move rfl rfl) ?_
       refine AL.rpy rfl rfl rfl (rp_len_map Tryz.underlying33 rfl rfl (by assumption)) ?_
       (refine AL.rpy rfl rfl rfl (rp_eqlT rfl rfl rfl (by first | assumption | omega | (dsimp only; omega))) ?_)
       refine AL.rp rfl rfl (rp_pick rfl rfl rfl) ?_
       refine AL.nil ?_
       try simp only [thenS, S.put, List.nil_append, List.cons_append]
       refine AW.condT rfl ?_
       refine AW.seq ?_
       refine AW.region ?_
       refine AL.rp rfl rfl (rp_move rfl rfl) ?_
       refine AL.rp rfl rfl (rp_index_map (k := 1) Tryz.underlying33 inf9 rfl rfl rfl (by omega) (by assumption)) ?_
       refine AL.rd rfl rfl (rd_load_ad Tryz.underlying9 rfl rfl rfl rfl) ?_
       refine AL.call (post := ?pc13) rfl (sm_call (args := [_]) ?hc13 ⟨Tryz.func12, rfl, rfl, rfl, rfl⟩ rfl rfl rfl rfl) ?_
       case hc13 => exact hwr
       rintro _ rfl -
       try dsimp only
       refine AL.rp rfl rfl (rp_move rfl rfl) ?_
       refine AL.rp rfl rfl (rp_extract rfl rfl rfl) ?_
       refine AL.rp rfl rfl (rp_extract rfl rfl rfl) ?_
       refine AL.rp rfl rfl (rp_assign rfl rfl) ?_
       refine AL.rp rfl rfl (rp_assign rfl rfl) ?_
       refine AL.nil ?_
       try simp only [thenS, S.put, S.newObj, setL, V.cs, List.length_cons, List.length_nil, List.take_succ_cons, List.take_zero, List.drop_succ_cons, List.drop_zero, List.drop_nil, List.nil_append, List.cons_append, List.append_nil, Nat.zero_add, Nat.reduceAdd, List.map_cons, List.map_nil, List.set_cons_zero, List.set_cons_succ]
       refine AW.seq ?_
       refine AW.seq ?_
       refine AW.region ?_
       refine AL.rp rfl rfl (rp_move rfl rfl) ?_
       (refine AL.rp rfl rfl (rp_neqT rfl rfl rfl (by first | assumption | omega | (dsimp only; omega))) ?_)
       refine AL.nil ?_
       try simp only [thenS, S.put, List.nil_append, List.cons_append]
       refine AW.condT rfl ?_
       refine AW.seq ?_
       refine AW.region ?_
       refine AL.rp rfl rfl (rp_build (vs := []) (zs := [.d (.p (.int .i64 0)), .d (.p (.slice none 0 0))]) pl24 inf24 rfl rfl rfl rfl) ?_
       refine AL.st rfl (st_store_any inf24 rfl rfl rfl rfl rfl rfl rfl rfl (by first | decide | (simp; done) | (simp; omega)) rfl) ?_
       refine AL.rp rfl rfl (rp_assign rfl rfl) ?_
       refine AL.nil ?_
       try simp only [thenS, S.put, S.newObj, setL, V.cs, List.length_cons, List.length_nil, List.take_succ_cons, List.take_zero, List.drop_succ_cons, List.drop_zero, List.drop_nil, List.nil_append, List.cons_append, List.append_nil, Nat.zero_add, Nat.reduceAdd, List.map_cons, List.map_nil, List.set_cons_zero, List.set_cons_succ]
       refine AW.ret ?_
       exact ⟨[_, _], ⟨⟨2, 0, _, _, rfl, rfl, rfl, Tryz.underlying24, .inr ⟨rfl, _, _, _, _, inf24, rfl, rfl, rfl⟩⟩, rfl, trivial⟩, .inl ⟨by decide, rfl⟩, by simp [tupOf, V.pure, V.has, V.hasL]⟩
     ·rw [if_neg hs] at hsucc
      obtain ⟨hc0, hc1⟩ : (p0 = wSa → NP ≠ 2) ∧ True := ⟨fun h h' => hs ⟨h, h'⟩, trivial⟩
      by_cases ha : p0 = wAr ∧ NP = 5 ∧ sts.length ≠ 0
      ·rw [if_pos ha] at hsucc
       obtain ⟨rfl, rfl, hne0⟩ := ha
       obtain ⟨p1, hq1⟩ : ∃ p, P[1]? = some p := ⟨_, List.getElem?_eq_getElem (by omega)⟩
       obtain ⟨p2, hq2⟩ : ∃ p, P[2]? = some p := ⟨_, List.getElem?_eq_getElem (by omega)⟩
       obtain ⟨p3, hq3⟩ : ∃ p, P[3]? = some p := ⟨_, List.getElem?_eq_getElem (by omega)⟩
       obtain ⟨p4, hq4⟩ : ∃ p, P[4]? = some p := ⟨_, List.getElem?_eq_getElem (by omega)⟩
       simp only [hq1, hq2, hq3, hq4, Option.getD_some] at hsucc
       have hcA : bs wAr = ⟨#[97, 114, 99]⟩ := rfl
       have hcS : (bs wAr).data.toList ≠ (⟨#[115, 116, 97, 116, 101]⟩ : ByteArray).data.toList := by decide
       have hnum1 := am_NumberM 60 (by decide) (bs p1) p1 (bs_list p1)
       have hnum2 := am_NumberM 1000 (by decide) (bs p2) p2 (bs_list p2)
       have hnum3 := am_NumberM 1000 (by decide) (bs p3) p3 (bs_list p3)
       have hnum4 := am_NumberM 1000000000 (by decide) (bs p4) p4 (bs_list p4)
       obtain ⟨v1, hv1⟩ : ∃ v, numM 60 p1 = v := ⟨_, rfl⟩
       obtain ⟨v2, hv2⟩ : ∃ v, numM 1000 p2 = v := ⟨_, rfl⟩
       obtain ⟨v3, hv3⟩ : ∃ v, numM 1000 p3 = v := ⟨_, rfl⟩
       obtain ⟨v4, hv4⟩ : ∃ v, numM 1000000000 p4 = v := ⟨_, rfl⟩
       rw [hv1] at hnum1
       rw [hv2] at hnum2
       rw [hv3] at hnum3
       rw [hv4] at hnum4
       rw [hv1, hv2, hv3, hv4] at hsucc
       by_cases hneg : v1 < 0 ∨ v2 < 0 ∨ v3 < 0 ∨ v4 < 0
       ·rw [if_pos hneg] at hsucc
        rw [hbad' hsucc]
        clear hsucc hbad'
        by_cases m1 : v1 < 0
        ·skip
         refine AW.seq ?_
         refine AW.seq ?_
         refine AW.region ?_
         refine AL.rp rfl rfl (rp_move rfl rfl) ?_
         refine AL.rp rfl rfl (rp_move rfl rfl) ?_
         refine AL.rp rfl rfl (rp_len_map Tryz.underlying33 rfl rfl (by assumption)) ?_
         (refine AL.rp rfl rfl (rp_lssT rfl rfl rfl (by first | assumption | omega | (dsimp only; omega))) ?_)
         refine AL.nil ?_
         try simp only [thenS, S.put, List.nil_append, List.cons_append]
         refine AW.condT rfl ?_
         refine AW.skip ?_
         try simp only [thenS, List.nil_append, List.cons_append]
         refine AW.seq ?_
         refine AW.block ?_
         refine AW.seq ?_
         refine AW.region ?_
         refine AL.rp rfl rfl (rp_move rfl rfl) ?_
         refine AL.rp rfl rfl (rp_move rfl rfl) ?_
         refine AL.rp rfl rfl (rp_index_map (k := i) Tryz.underlying33 inf9 rfl rfl rfl (by omega) (by assumption)) ?_
         refine AL.rd rfl rfl (rd_load_ad Tryz.underlying9 rfl rfl rfl rfl) ?_
         refine AL.call (post := ?pc14) rfl (sm_call (args := [_]) ?hc14 ⟨Tryz.func10, rfl, rfl, rfl, rfl⟩ rfl rfl rfl rfl) ?_
         case hc14 => exact hpx
         rintro _ rfl -
         try dsimp only
         refine AL.rp rfl rfl (rp_assign rfl rfl) ?_
         refine AL.nil ?_
         try simp only [thenS, S.put, S.newObj, setL, V.cs, List.length_cons, List.length_nil, List.take_succ_cons, List.take_zero, List.drop_succ_cons, List.drop_zero, List.drop_nil, List.nil_append, List.cons_append, List.append_nil, Nat.zero_add, Nat.reduceAdd, List.map_cons, List.map_nil, List.set_cons_zero, List.set_cons_succ]
         refine AW.seq ?_
         refine AW.seq ?_
         refine AW.region ?_
         refine AL.rp rfl rfl (rp_move rfl rfl) ?_
         (refine AL.rp rfl rfl (rp_eqlF rfl rfl rfl (by first | assumption | omega | (dsimp only; omega))) ?_)
         refine AL.nil ?_
         try simp only [thenS, S.put, List.nil_append, List.cons_append]
         refine AW.condF rfl ?_
         refine AW.skip ?_
         try simp only [thenS, List.nil_append, List.cons_append]
         refine AW.seq ?_
         refine AW.seq ?_
         refine AW.region ?_
         refine AL.rp rfl rfl (rp_move rfl rfl) ?_
         refine AL.rp rfl rfl (rp_index_map (k := 0) Tryz.underlying33 inf9 rfl rfl rfl (by omega) (by assumption)) ?_
         refine AL.rd rfl rfl (rd_load_ad Tryz.underlying9 rfl rfl rfl rfl) ?_
         refine AL.rp rfl rfl (rp_eqlsF rfl rfl rfl (by assumption)) ?_
         refine AL.rp rfl rfl (rp_move rfl rfl) ?_
         refine AL.noV rfl rfl rfl rfl ?_
         refine AL.noV rfl rfl rfl rfl ?_
         refine AL.noV rfl rfl rfl rfl ?_
         refine AL.rp rfl rfl (rp_pick rfl rfl rfl) ?_
         refine AL.nil ?_
         try simp only [thenS, S.put, List.nil_append, List.cons_append]
         refine AW.condF rfl ?_
         refine AW.skip ?_
         try simp only [thenS, List.nil_append, List.cons_append]
         refine AW.seq ?_
         refine AW.seq ?_
         refine AW.region ?_
         refine AL.rp rfl rfl (rp_move rfl rfl) ?_
         refine AL.rp rfl rfl (rp_index_map (k := 0) Tryz.underlying33 inf9 rfl rfl rfl (by omega) (by assumption)) ?_
         refine AL.rd rfl rfl (rd_load_ad Tryz.underlying9 rfl rfl rfl rfl) ?_
         refine AL.rp rfl rfl (rp_neqsF rfl rfl rfl (by assumption)) ?_
         refine AL.rp rfl rfl (rp_move rfl rfl) ?_
         refine AL.rpy rfl rfl rfl (rp_move rfl rfl) ?_
         refine AL.rpy rfl rfl rfl (rp_len_map Tryz.underlying33 rfl rfl (by assumption)) ?_
         (refine AL.rpy rfl rfl rfl (rp_neqF rfl rfl rfl (by first | assumption | omega | (dsimp only; omega))) ?_)
         refine AL.rp rfl rfl (rp_pick rfl rfl rfl) ?_
         refine AL.rp rfl rfl (rp_move rfl rfl) ?_
         refine AL.rpy rfl rfl rfl (rp_field_ref Tryz.underlying24 rfl rfl rfl inf22 (by decide) rfl) ?_
         refine AL.rdy rfl rfl rfl (rd_load_ref Tryz.underlying22 rfl rfl rfl rfl rfl rfl) ?_
         refine AL.rpy rfl rfl rfl (rp_len_own Tryz.underlying22 rfl rfl) ?_
         (refine AL.rpy rfl rfl rfl (rp_eqlF rfl rfl rfl (by first | assumption | omega | (dsimp only; omega))) ?_)
         refine AL.rp rfl rfl (rp_pick rfl rfl rfl) ?_
         refine AL.nil ?_
         try simp only [thenS, S.put, List.nil_append, List.cons_append]
         refine AW.condF rfl ?_
         refine AW.skip ?_
         try simp only [thenS, List.nil_append, List.cons_append]
         refine AW.seq ?_
         refine AW.region ?_
         refine AL.rp rfl rfl (rp_move rfl rfl) ?_
         refine AL.rp rfl rfl (rp_index_map (k := 1) Tryz.underlying33 inf9 rfl rfl rfl (by omega) (by assumption)) ?_
         refine AL.rd rfl rfl (rd_load_ad Tryz.underlying9 rfl rfl rfl rfl) ?_
         refine AL.call (post := ?pc15) rfl (sm_call (args := [_, _]) ?hc15 ⟨Tryz.func11, rfl, rfl, rfl, rfl⟩ rfl rfl rfl rfl) ?_
         case hc15 => exact hnum1
         rintro _ rfl -
         try dsimp only
         refine AL.rp rfl rfl (rp_assign rfl rfl) ?_
         refine AL.nil ?_
         try simp only [thenS, S.put, S.newObj, setL, V.cs, List.length_cons, List.length_nil, List.take_succ_cons, List.take_zero, List.drop_succ_cons, List.drop_zero, List.drop_nil, List.nil_append, List.cons_append, List.append_nil, Nat.zero_add, Nat.reduceAdd, List.map_cons, List.map_nil, List.set_cons_zero, List.set_cons_succ]
         refine AW.seq ?_
         refine AW.region ?_
         refine AL.rp rfl rfl (rp_move rfl rfl) ?_
         refine AL.rp rfl rfl (rp_index_map (k := 2) Tryz.underlying33 inf9 rfl rfl rfl (by omega) (by assumption)) ?_
         refine AL.rd rfl rfl (rd_load_ad Tryz.underlying9 rfl rfl rfl rfl) ?_
         refine AL.call (post := ?pc16) rfl (sm_call (args := [_, _]) ?hc16 ⟨Tryz.func11, rfl, rfl, rfl, rfl⟩ rfl rfl rfl rfl) ?_
         case hc16 => exact hnum2
         rintro _ rfl -
         try dsimp only
         refine AL.rp rfl rfl (rp_assign rfl rfl) ?_
         refine AL.nil ?_
         try simp only [thenS, S.put, S.newObj, setL, V.cs, List.length_cons, List.length_nil, List.take_succ_cons, List.take_zero, List.drop_succ_cons, List.drop_zero, List.drop_nil, List.nil_append, List.cons_append, List.append_nil, Nat.zero_add, Nat.reduceAdd, List.map_cons, List.map_nil, List.set_cons_zero, List.set_cons_succ]
         refine AW.seq ?_
         refine AW.region ?_
         refine AL.rp rfl rfl (rp_move rfl rfl) ?_
         refine AL.rp rfl rfl (rp_index_map (k := 3) Tryz.underlying33 inf9 rfl rfl rfl (by omega) (by assumption)) ?_
         refine AL.rd rfl rfl (rd_load_ad Tryz.underlying9 rfl rfl rfl rfl) ?_
         refine AL.call (post := ?pc17) rfl (sm_call (args := [_, _]) ?hc17 ⟨Tryz.func11, rfl, rfl, rfl, rfl⟩ rfl rfl rfl rfl) ?_
         case hc17 => exact hnum3
         rintro _ rfl -
         try dsimp only
         refine AL.rp rfl rfl (rp_assign rfl rfl) ?_
         refine AL.nil ?_
         try simp only [thenS, S.put, S.newObj, setL, V.cs, List.length_cons, List.length_nil, List.take_succ_cons, List.take_zero, List.drop_succ_cons, List.drop_zero, List.drop_nil, List.nil_append, List.cons_append, List.append_nil, Nat.zero_add, Nat.reduceAdd, List.map_cons, List.map_nil, List.set_cons_zero, List.set_cons_succ]
         refine AW.seq ?_
         refine AW.region ?_
         refine AL.rp rfl rfl (rp_move rfl rfl) ?_
         refine AL.rp rfl rfl (rp_index_map (k := 4) Tryz.underlying33 inf9 rfl rfl rfl (by omega) (by assumption)) ?_
         refine AL.rd rfl rfl (rd_load_ad Tryz.underlying9 rfl rfl rfl rfl) ?_
         refine AL.call (post := ?pc18) rfl (sm_call (args := [_, _]) ?hc18 ⟨Tryz.func11, rfl, rfl, rfl, rfl⟩ rfl rfl rfl rfl) ?_
         case hc18 => exact hnum4
         rintro _ rfl -
         try dsimp only
         refine AL.rp rfl rfl (rp_assign rfl rfl) ?_
         refine AL.nil ?_
         try simp only [thenS, S.put, S.newObj, setL, V.cs, List.length_cons, List.length_nil, List.take_succ_cons, List.take_zero, List.drop_succ_cons, List.drop_zero, List.drop_nil, List.nil_append, List.cons_append, List.append_nil, Nat.zero_add, Nat.reduceAdd, List.map_cons, List.map_nil, List.set_cons_zero, List.set_cons_succ]
         refine AW.seq ?_
         refine AW.seq ?_
         refine AW.region ?_
         refine AL.rp rfl rfl (rp_move rfl rfl) ?_
         (refine AL.rp rfl rfl (rp_lssT rfl rfl rfl (by first | assumption | omega | (dsimp only; omega))) ?_)
         refine AL.rp rfl rfl (rp_move rfl rfl) ?_
         refine AL.noV rfl rfl rfl rfl ?_
         refine AL.noV rfl rfl rfl rfl ?_
         refine AL.rp rfl rfl (rp_pick rfl rfl rfl) ?_
         refine AL.rp rfl rfl (rp_move rfl rfl) ?_
         refine AL.noV rfl rfl rfl rfl ?_
         refine AL.noV rfl rfl rfl rfl ?_
         refine AL.rp rfl rfl (rp_pick rfl rfl rfl) ?_
         refine AL.rp rfl rfl (rp_move rfl rfl) ?_
         refine AL.noV rfl rfl rfl rfl ?_
         refine AL.noV rfl rfl rfl rfl ?_
         refine AL.rp rfl rfl (rp_pick rfl rfl rfl) ?_
         refine AL.nil ?_
         try simp only [thenS, S.put, List.nil_append, List.cons_append]
         refine AW.condT rfl ?_
         refine AW.seq ?_
         refine AW.region ?_
         refine AL.rp rfl rfl (rp_build (vs := []) (zs := [.d (.p (.int .i64 0)), .d (.p (.slice none 0 0))]) pl24 inf24 rfl rfl rfl rfl) ?_
         refine AL.st rfl (st_store_any inf24 rfl rfl rfl rfl rfl rfl rfl rfl (by first | decide | (simp; done) | (simp; omega)) rfl) ?_
         refine AL.rp rfl rfl (rp_assign rfl rfl) ?_
         refine AL.nil ?_
         try simp only [thenS, S.put, S.newObj, setL, V.cs, List.length_cons, List.length_nil, List.take_succ_cons, List.take_zero, List.drop_succ_cons, List.drop_zero, List.drop_nil, List.nil_append, List.cons_append, List.append_nil, Nat.zero_add, Nat.reduceAdd, List.map_cons, List.map_nil, List.set_cons_zero, List.set_cons_succ]
         refine AW.ret ?_
         exact ⟨[_, _], ⟨⟨2, 0, _, _, rfl, rfl, rfl, Tryz.underlying24, .inr ⟨rfl, _, _, _, _, inf24, rfl, rfl, rfl⟩⟩, rfl, trivial⟩, .inl ⟨by decide, rfl⟩, by simp [tupOf, V.pure, V.has, V.hasL]⟩
        ·by_cases m2 : v2 < 0
         ·skip
          refine AW.seq ?_
          refine AW.seq ?_
          refine AW.region ?_
          refine AL.rp rfl rfl (rp_move rfl rfl) ?_
          refine AL.rp rfl rfl (rp_move rfl rfl) ?_
          refine AL.rp rfl rfl (rp_len_map Tryz.underlying33 rfl rfl (by assumption)) ?_
          (refine AL.rp rfl rfl (rp_lssT rfl rfl rfl (by first | assumption | omega | (dsimp only; omega))) ?_)
          refine AL.nil ?_
          try simp only [thenS, S.put, List.nil_append, List.cons_append]
          refine AW.condT rfl ?_
          refine AW.skip ?_
          try simp only [thenS, List.nil_append, List.cons_append]
          refine AW.seq ?_
          refine AW.block ?_
          refine AW.seq ?_
          refine AW.region ?_
          refine AL.rp rfl rfl (rp_move rfl rfl) ?_
          refine AL.rp rfl rfl (rp_move rfl rfl) ?_
          refine AL.rp rfl rfl (rp_index_map (k := i) Tryz.underlying33 inf9 rfl rfl rfl (by omega) (by assumption)) ?_
          refine AL.rd rfl rfl (rd_load_ad Tryz.underlying9 rfl rfl rfl rfl) ?_
          refine AL.call (post := ?pc19) rfl (sm_call (args := [_]) ?hc19 ⟨Tryz.func10, rfl, rfl, rfl, rfl⟩ rfl rfl rfl rfl) ?_
          case hc19 => exact hpx
          rintro _ rfl -
          try dsimp only
          refine AL.rp rfl rfl (rp_assign rfl rfl) ?_
          refine AL.nil ?_
          try simp only [thenS, S.put, S.newObj, setL, V.cs, List.length_cons, List.length_nil, List.take_succ_cons, List.take_zero, List.drop_succ_cons, List.drop_zero, List.drop_nil, List.nil_append, List.cons_append, List.append_nil, Nat.zero_add, Nat.reduceAdd, List.map_cons, List.map_nil, List.set_cons_zero, List.set_cons_succ]
          refine AW.seq ?_
          refine AW.seq ?_
          refine AW.region ?_
          refine AL.rp rfl rfl (rp_move rfl rfl) ?_
          (refine AL.rp rfl rfl (rp_eqlF rfl rfl rfl (by first | assumption | omega | (dsimp only; omega))) ?_)
          refine AL.nil ?_
          try simp only [thenS, S.put, List.nil_append, List.cons_append]
          refine AW.condF rfl ?_
          refine AW.skip ?_
          try simp only [thenS, List.nil_append, List.cons_append]
          refine AW.seq ?_
          refine AW.seq ?_
          refine AW.region ?_
          refine AL.rp rfl rfl (rp_move rfl rfl) ?_
          refine AL.rp rfl rfl (rp_index_map (k := 0) Tryz.underlying33 inf9 rfl rfl rfl (by omega) (by assumption)) ?_
          refine AL.rd rfl rfl (rd_load_ad Tryz.underlying9 rfl rfl rfl rfl) ?_
          refine AL.rp rfl rfl (rp_eqlsF rfl rfl rfl (by assumption)) ?_
          refine AL.rp rfl rfl (rp_move rfl rfl) ?_
          refine AL.noV rfl rfl rfl rfl ?_
          refine AL.noV rfl rfl rfl rfl ?_
          refine AL.noV rfl rfl rfl rfl ?_
          refine AL.rp rfl rfl (rp_pick rfl rfl rfl) ?_
          refine AL.nil ?_
          try simp only [thenS, S.put, List.nil_append, List.cons_append]
          refine AW.condF rfl ?_
          refine AW.skip ?_
          try simp only [thenS, List.nil_append, List.cons_append]
          refine AW.seq ?_
          refine AW.seq ?_
          refine AW.region ?_
          refine AL.rp rfl rfl (rp_move rfl rfl) ?_
          refine AL.rp rfl rfl (rp_index_map (k := 0) Tryz.underlying33 inf9 rfl rfl rfl (by omega) (by assumption)) ?_
          refine AL.rd rfl rfl (rd_load_ad Tryz.underlying9 rfl rfl rfl rfl) ?_
          refine AL.rp rfl rfl (rp_neqsF rfl rfl rfl (by assumption)) ?_
          refine AL.rp rfl rfl (rp_move rfl rfl) ?_
          refine AL.rpy rfl rfl rfl (rp_move rfl rfl) ?_
          refine AL.rpy rfl rfl rfl (rp_len_map Tryz.underlying33 rfl rfl (by assumption)) ?_
          (refine AL.rpy rfl rfl rfl (rp_neqF rfl rfl rfl (by first | assumption | omega | (dsimp only; omega))) ?_)
          refine AL.rp rfl rfl (rp_pick rfl rfl rfl) ?_
          refine AL.rp rfl rfl (rp_move rfl rfl) ?_
          refine AL.rpy rfl rfl rfl (rp_field_ref Tryz.underlying24 rfl rfl rfl inf22 (by decide) rfl) ?_
          refine AL.rdy rfl rfl rfl (rd_load_ref Tryz.underlying22 rfl rfl rfl rfl rfl rfl) ?_
          refine AL.rpy rfl rfl rfl (rp_len_own Tryz.underlying22 rfl rfl) ?_
          (refine AL.rpy rfl rfl rfl (rp_eqlF rfl rfl rfl (by first | assumption | omega | (dsimp only; omega))) ?_)
          refine AL.rp rfl rfl (rp_pick rfl rfl rfl) ?_
          refine AL.nil ?_
          try simp only [thenS, S.put, List.nil_append, List.cons_append]
          refine AW.condF rfl ?_
          refine AW.skip ?_
          try simp only [thenS, List.nil_append, List.cons_append]
          refine AW.seq ?_
          refine AW.region ?_
          refine AL.rp rfl rfl (rp_move rfl rfl) ?_
          refine AL.rp rfl rfl (rp_index_map (k := 1) Tryz.underlying33 inf9 rfl rfl rfl (by omega) (by assumption)) ?_
          refine AL.rd rfl rfl (rd_load_ad Tryz.underlying9 rfl rfl rfl rfl) ?_
          refine AL.call (post := ?pc20) rfl (sm_call (args := [_, _]) ?hc20 ⟨Tryz.func11, rfl, rfl, rfl, rfl⟩ rfl rfl rfl rfl) ?_
          case hc20 => exact hnum1
          rintro _ rfl -
          try dsimp only
          refine AL.rp rfl rfl (rp_assign rfl rfl) ?_
          refine AL.nil ?_
          try simp only [thenS, S.put, S.newObj, setL, V.cs, List.length_cons, List.length_nil, List.take_succ_cons, List.take_zero, List.drop_succ_cons, List.drop_zero, List.drop_nil, List.nil_append, List.cons_append, List.append_nil, Nat.zero_add, Nat.reduceAdd, List.map_cons, List.map_nil, List.set_cons_zero, List.set_cons_succ]
          refine AW.seq ?_
          refine AW.region ?_
          refine AL.rp rfl rfl (rp_move rfl rfl) ?_
          refine AL.rp rfl rfl (rp_index_map (k := 2) Tryz.underlying33 inf9 rfl rfl rfl (by omega) (by assumption)) ?_
          refine AL.rd rfl rfl (rd_load_ad Tryz.underlying9 rfl rfl rfl rfl) ?_
          refine AL.call (post := ?pc21) rfl (sm_call (args := [_, _]) ?hc21 ⟨Tryz.func11, rfl, rfl, rfl, rfl⟩ rfl rfl rfl rfl) ?_
          case hc21 => exact hnum2
          rintro _ rfl -
          try dsimp only
          refine AL.rp rfl rfl (rp_assign rfl rfl) ?_
          refine AL.nil ?_
          try simp only [thenS, S.put, S.newObj, setL, V.cs, List.length_cons, List.length_nil, List.take_succ_cons, List.take_zero, List.drop_succ_cons, List.drop_zero, List.drop_nil, List.nil_append, List.cons_append, List.append_nil, Nat.zero_add, Nat.reduceAdd, List.map_cons, List.map_nil, List.set_cons_zero, List.set_cons_succ]
          refine AW.seq ?_
          refine AW.region ?_
          refine AL.rp rfl rfl (rp_move rfl rfl) ?_
          refine AL.rp rfl rfl (rp_index_map (k := 3) Tryz.underlying33 inf9 rfl rfl rfl (by omega) (by assumption)) ?_
          refine AL.rd rfl rfl (rd_load_ad Tryz.underlying9 rfl rfl rfl rfl) ?_
          refine AL.call (post := ?pc22) rfl (sm_call (args := [_, _]) ?hc22 ⟨Tryz.func11, rfl, rfl, rfl, rfl⟩ rfl rfl rfl rfl) ?_
          case hc22 => exact hnum3
          rintro _ rfl -
          try dsimp only
          refine AL.rp rfl rfl (rp_assign rfl rfl) ?_
          refine AL.nil ?_
          try simp only [thenS, S.put, S.newObj, setL, V.cs, List.length_cons, List.length_nil, List.take_succ_cons, List.take_zero, List.drop_succ_cons, List.drop_zero, List.drop_nil, List.nil_append, List.cons_append, List.append_nil, Nat.zero_add, Nat.reduceAdd, List.map_cons, List.map_nil, List.set_cons_zero, List.set_cons_succ]
          refine AW.seq ?_
          refine AW.region ?_
          refine AL.rp rfl rfl (rp_move rfl rfl) ?_
          refine AL.rp rfl rfl (rp_index_map (k := 4) Tryz.underlying33 inf9 rfl rfl rfl (by omega) (by assumption)) ?_
          refine AL.rd rfl rfl (rd_load_ad Tryz.underlying9 rfl rfl rfl rfl) ?_
          refine AL.call (post := ?pc23) rfl (sm_call (args := [_, _]) ?hc23 ⟨Tryz.func11, rfl, rfl, rfl, rfl⟩ rfl rfl rfl rfl) ?_
          case hc23 => exact hnum4
          rintro _ rfl -
          try dsimp only
          refine AL.rp rfl rfl (rp_assign rfl rfl) ?_
          refine AL.nil ?_
          try simp only [thenS, S.put, S.newObj, setL, V.cs, List.length_cons, List.length_nil, List.take_succ_cons, List.take_zero, List.drop_succ_cons, List.drop_zero, List.drop_nil, List.nil_append, List.cons_append, List.append_nil, Nat.zero_add, Nat.reduceAdd, List.map_cons, List.map_nil, List.set_cons_zero, List.set_cons_succ]
          refine AW.seq ?_
          refine AW.seq ?_
          refine AW.region ?_
          refine AL.rp rfl rfl (rp_move rfl rfl) ?_
          (refine AL.rp rfl rfl (rp_lssF rfl rfl rfl (by first | assumption | omega | (dsimp only; omega))) ?_)
          refine AL.rp rfl rfl (rp_move rfl rfl) ?_
          refine AL.rpy rfl rfl rfl (rp_move rfl rfl) ?_
          (refine AL.rpy rfl rfl rfl (rp_lssT rfl rfl rfl (by first | assumption | omega | (dsimp only; omega))) ?_)
          refine AL.rp rfl rfl (rp_pick rfl rfl rfl) ?_
          refine AL.rp rfl rfl (rp_move rfl rfl) ?_
          refine AL.noV rfl rfl rfl rfl ?_
          refine AL.noV rfl rfl rfl rfl ?_
          refine AL.rp rfl rfl (rp_pick rfl rfl rfl) ?_
          refine AL.rp rfl rfl (rp_move rfl rfl) ?_
          refine AL.noV rfl rfl rfl rfl ?_
          refine AL.noV rfl rfl rfl rfl ?_
          refine AL.rp rfl rfl (rp_pick rfl rfl rfl) ?_
          refine AL.nil ?_
          try simp only [thenS, S.put, List.nil_append, List.cons_append]
          refine AW.condT rfl ?_
          refine AW.seq ?_
          refine AW.region ?_
          refine AL.rp rfl rfl (rp_build (vs := []) (zs := [.d (.p (.int .i64 0)), .d (.p (.slice none 0 0))]) pl24 inf24 rfl rfl rfl rfl) ?_
          refine AL.st rfl (st_store_any inf24 rfl rfl rfl rfl rfl rfl rfl rfl (by first | decide | (simp; done) | (simp; omega)) rfl) ?_
          refine AL.rp rfl rfl (rp_assign rfl rfl) ?_
          refine AL.nil ?_
          try simp only [thenS, S.put, S.newObj, setL, V.cs, List.length_cons, List.length_nil, List.take_succ_cons, List.take_zero, List.drop_succ_cons, List.drop_zero, List.drop_nil, List.nil_append, List.cons_append, List.append_nil, Nat.zero_add, Nat.reduceAdd, List.map_cons, List.map_nil, List.set_cons_zero, List.set_cons_succ]
          refine AW.ret ?_
          exact ⟨[_, _], ⟨⟨2, 0, _, _, rfl, rfl, rfl, Tryz.underlying24, .inr ⟨rfl, _, _, _, _, inf24, rfl, rfl, rfl⟩⟩, rfl, trivial⟩, .inl ⟨by decide, rfl⟩, by simp [tupOf, V.pure, V.has, V.hasL]⟩
         ·by_cases m3 : v3 < 0
          ·skip
           refine AW.seq ?_
           refine AW.seq ?_
           refine AW.region ?_
           refine AL.rp rfl rfl (rp_move rfl rfl) ?_
           refine AL.rp rfl rfl (rp_move rfl rfl) ?_
           refine AL.rp rfl rfl (rp_len_map Tryz.underlying33 rfl rfl (by assumption)) ?_
           (refine AL.rp rfl rfl (rp_lssT rfl rfl rfl (by first | assumption | omega | (dsimp only; omega))) ?_)
           refine AL.nil ?_
           try simp only [thenS, S.put, List.nil_append, List.cons_append]
           refine AW.condT rfl ?_
           refine AW.skip ?_
           try simp only [thenS, List.nil_append, List.cons_append]
           refine AW.seq ?_
           refine AW.block ?_
           refine AW.seq ?_
           refine AW.region ?_
           refine AL.rp rfl rfl (rp_move rfl rfl) ?_
           refine AL.rp rfl rfl (rp_move rfl rfl) ?_
           refine AL.rp rfl rfl (rp_index_map (k := i) Tryz.underlying33 inf9 rfl rfl rfl (by omega) (by assumption)) ?_
           refine AL.rd rfl rfl (rd_load_ad Tryz.underlying9 rfl rfl rfl rfl) ?_
           refine AL.call (post := ?pc24) rfl (sm_call (args := [_]) ?hc24 ⟨Tryz.func10, rfl, rfl, rfl, rfl⟩ rfl rfl rfl rfl) ?_
           case hc24 => exact hpx
           rintro _ rfl -
           try dsimp only
           refine AL.rp rfl rfl (rp_assign rfl rfl) ?_
           refine AL.nil ?_
           try simp only [thenS, S.put, S.newObj, setL, V.cs, List.length_cons, List.length_nil, List.take_succ_cons, List.take_zero, List.drop_succ_cons, List.drop_zero, List.drop_nil, List.nil_append, List.cons_append, List.append_nil, Nat.zero_add, Nat.reduceAdd, List.map_cons, List.map_nil, List.set_cons_zero, List.set_cons_succ]
           refine AW.seq ?_
           refine AW.seq ?_
           refine AW.region ?_
           refine AL.rp rfl rfl (rp_move rfl rfl) ?_
           (refine AL.rp rfl rfl (rp_eqlF rfl rfl rfl (by first | assumption | omega | (dsimp only; omega))) ?_)
           refine AL.nil ?_
           try simp only [thenS, S.put, List.nil_append, List.cons_append]
           refine AW.condF rfl ?_
           refine AW.skip ?_
           try simp only [thenS, List.nil_append, List.cons_append]
           refine AW.seq ?_
           refine AW.seq ?_
           refine AW.region ?_
           refine AL.rp rfl rfl (rp_move rfl rfl) ?_
           refine AL.rp rfl rfl (rp_index_map (k := 0) Tryz.underlying33 inf9 rfl rfl rfl (by omega) (by assumption)) ?_
           refine AL.rd rfl rfl (rd_load_ad Tryz.underlying9 rfl rfl rfl rfl) ?_
           refine AL.rp rfl rfl (rp_eqlsF rfl rfl rfl (by assumption)) ?_
           refine AL.rp rfl rfl (rp_move rfl rfl) ?_
           refine AL.noV rfl rfl rfl rfl ?_
           refine AL.noV rfl rfl rfl rfl ?_
           refine AL.noV rfl rfl rfl rfl ?_
           refine AL.rp rfl rfl (rp_pick rfl rfl rfl) ?_
           refine AL.nil ?_
           try simp only [thenS, S.put, List.nil_append, List.cons_append]
           refine AW.condF rfl ?_
           refine AW.skip ?_
           try simp only [thenS, List.nil_append, List.cons_append]
           refine AW.seq ?_
           refine AW.seq ?_
           refine AW.region ?_
           refine AL.rp rfl rfl (rp_move rfl rfl) ?_
           refine AL.rp rfl rfl (rp_index_map (k := 0) Tryz.underlying33 inf9 rfl rfl rfl (by omega) (by assumption)) ?_
           refine AL.rd rfl rfl (rd_load_ad Tryz.underlying9 rfl rfl rfl rfl) ?_
           refine AL.rp rfl rfl (rp_neqsF rfl rfl rfl (by assumption)) ?_
           refine AL.rp rfl rfl (rp_move rfl rfl) ?_
           refine AL.rpy rfl rfl rfl (rp_move rfl rfl) ?_
           refine AL.rpy rfl rfl rfl (rp_len_map Tryz.underlying33 rfl rfl (by assumption)) ?_
           (refine AL.rpy rfl rfl rfl (rp_neqF rfl rfl rfl (by first | assumption | omega | (dsimp only; omega))) ?_)
           refine AL.rp rfl rfl (rp_pick rfl rfl rfl) ?_
           refine AL.rp rfl rfl (rp_move rfl rfl) ?_
           refine AL.rpy rfl rfl rfl (rp_field_ref Tryz.underlying24 rfl rfl rfl inf22 (by decide) rfl) ?_
           refine AL.rdy rfl rfl rfl (rd_load_ref Tryz.underlying22 rfl rfl rfl rfl rfl rfl) ?_
           refine AL.rpy rfl rfl rfl (rp_len_own Tryz.underlying22 rfl rfl) ?_
           (refine AL.rpy rfl rfl rfl (rp_eqlF rfl rfl rfl (by first | assumption | omega | (dsimp only; omega))) ?_)
           refine AL.rp rfl rfl (rp_pick rfl rfl rfl) ?_
           refine AL.nil ?_
           try simp only [thenS, S.put, List.nil_append, List.cons_append]
           refine AW.condF rfl ?_
           refine AW.skip ?_
           try simp only [thenS, List.nil_append, List.cons_append]
           refine AW.seq ?_
           refine AW.region ?_
           refine AL.rp rfl rfl (rp_move rfl rfl) ?_
           refine AL.rp rfl rfl (rp_index_map (k := 1) Tryz.underlying33 inf9 rfl rfl rfl (by omega) (by assumption)) ?_
           refine AL.rd rfl rfl (rd_load_ad Tryz.underlying9 rfl rfl rfl rfl) ?_
           refine AL.call (post := ?pc25) rfl (sm_call (args := [_, _]) ?hc25 ⟨Tryz.func11, rfl, rfl, rfl, rfl⟩ rfl rfl rfl rfl) ?_
           case hc25 => exact hnum1
           rintro _ rfl -
           try dsimp only
           refine AL.rp rfl rfl (rp_assign rfl rfl) ?_
           refine AL.nil ?_
           try simp only [thenS, S.put, S.newObj, setL, V.cs, List.length_cons, List.length_nil, List.take_succ_cons, List.take_zero, List.drop_succ_cons, List.drop_zero, List.drop_nil, List.nil_append, List.cons_append, List.append_nil, Nat.zero_add, Nat.reduceAdd, List.map_cons, List.map_nil, List.set_cons_zero, List.set_cons_succ]
           refine AW.seq ?_
           refine AW.region ?_
           refine AL.rp rfl rfl (rp_move rfl rfl) ?_
           refine AL.rp rfl rfl (rp_index_map (k := 2) Tryz.underlying33 inf9 rfl rfl rfl (by omega) (by assumption)) ?_
           refine AL.rd rfl rfl (rd_load_ad Tryz.underlying9 rfl rfl rfl rfl) ?_
           refine AL.call (post := ?pc26) rfl (sm_call (args := [_, _]) ?hc26 ⟨Tryz.func11, rfl, rfl, rfl, rfl⟩ rfl rfl rfl rfl) ?_
           case hc26 => exact hnum2
           rintro _ rfl -
           try dsimp only
           refine AL.rp rfl rfl (rp_assign rfl rfl) ?_
           refine AL.nil ?_
           try simp only [thenS, S.put, S.newObj, setL, V.cs, List.length_cons, List.length_nil, List.take_succ_cons, List.take_zero, List.drop_succ_cons, List.drop_zero, List.drop_nil, List.nil_append, List.cons_append, List.append_nil, Nat.zero_add, Nat.reduceAdd, List.map_cons, List.map_nil, List.set_cons_zero, List.set_cons_succ]
           refine AW.seq ?_
           refine AW.region ?_
           refine AL.rp rfl rfl (rp_move rfl rfl) ?_
           refine AL.rp rfl rfl (rp_index_map (k := 3) Tryz.underlying33 inf9 rfl rfl rfl (by omega) (by assumption)) ?_
           refine AL.rd rfl rfl (rd_load_ad Tryz.underlying9 rfl rfl rfl rfl) ?_
           refine AL.call (post := ?pc27) rfl (sm_call (args := [_, _]) ?hc27 ⟨Tryz.func11, rfl, rfl, rfl, rfl⟩ rfl rfl rfl rfl) ?_
           case hc27 => exact hnum3
           rintro _ rfl -
           try dsimp only
           refine AL.rp rfl rfl (rp_assign rfl rfl) ?_
           refine AL.nil ?_
           try simp only [thenS, S.put, S.newObj, setL, V.cs, List.length_cons, List.length_nil, List.take_succ_cons, List.take_zero, List.drop_succ_cons, List.drop_zero, List.drop_nil, List.nil_append, List.cons_append, List.append_nil, Nat.zero_add, Nat.reduceAdd, List.map_cons, List.map_nil, List.set_cons_zero, List.set_cons_succ]
           refine AW.seq ?_
           refine AW.region ?_
           refine AL.rp rfl rfl (rp_move rfl rfl) ?_
           refine AL.rp rfl rfl (rp_index_map (k := 4) Tryz.underlying33 inf9 rfl rfl rfl (by omega) (by assumption)) ?_
           refine AL.rd rfl rfl (rd_load_ad Tryz.underlying9 rfl rfl rfl rfl) ?_
           refine AL.call (post := ?pc28) rfl (sm_call (args := [_, _]) ?hc28 ⟨Tryz.func11, rfl, rfl, rfl, rfl⟩ rfl rfl rfl rfl) ?_
           case hc28 => exact hnum4
           rintro _ rfl -
           try dsimp only
           refine AL.rp rfl rfl (rp_assign rfl rfl) ?_
           refine AL.nil ?_
           try simp only [thenS, S.put, S.newObj, setL, V.cs, List.length_cons, List.length_nil, List.take_succ_cons, List.take_zero, List.drop_succ_cons, List.drop_zero, List.drop_nil, List.nil_append, List.cons_append, List.append_nil, Nat.zero_add, Nat.reduceAdd, List.map_cons, List.map_nil, List.set_cons_zero, List.set_cons_succ]
           refine AW.seq ?_
           refine AW.seq ?_
           refine AW.region ?_
           refine AL.rp rfl rfl (rp_move rfl rfl) ?_
           (refine AL.rp rfl rfl (rp_lssF rfl rfl rfl (by first | assumption | omega | (dsimp only; omega))) ?_)
           refine AL.rp rfl rfl (rp_move rfl rfl) ?_
           refine AL.rpy rfl rfl rfl (rp_move rfl rfl) ?_
           (refine AL.rpy rfl rfl rfl (rp_lssF rfl rfl rfl (by first | assumption | omega | (dsimp only; omega))) ?_)
           refine AL.rp rfl rfl (rp_pick rfl rfl rfl) ?_
           refine AL.rp rfl rfl (rp_move rfl rfl) ?_
           refine AL.rpy rfl rfl rfl (rp_move rfl rfl) ?_
           (refine AL.rpy rfl rfl rfl (rp_lssT rfl rfl rfl (by first | assumption | omega | (dsimp only; omega))) ?_)
           refine AL.rp rfl rfl (rp_pick rfl rfl rfl) ?_
           refine AL.rp rfl rfl (rp_move rfl rfl) ?_
           refine AL.noV rfl rfl rfl rfl ?_
           refine AL.noV rfl rfl rfl rfl ?_
           refine AL.rp rfl rfl (rp_pick rfl rfl rfl) ?_
           refine AL.nil ?_
           try simp only [thenS, S.put, List.nil_append, List.cons_append]
           refine AW.condT rfl ?_
           refine AW.seq ?_
           refine AW.region ?_
           refine AL.rp rfl rfl (rp_build (vs := []) (zs := [.d (.p (.int .i64 0)), .d (.p (.slice none 0 0))]) pl24 inf24 rfl rfl rfl rfl) ?_
           refine AL.st rfl (st_store_any inf24 rfl rfl rfl rfl rfl rfl rfl rfl (by first | decide | (simp; done) | (simp; omega)) rfl) ?_
           refine AL.rp rfl rfl (rp_assign rfl rfl) ?_
           refine AL.nil ?_
           try simp only [thenS, S.put, S.newObj, setL, V.cs, List.length_cons, List.length_nil, List.take_succ_cons, List.take_zero, List.drop_succ_cons, List.drop_zero, List.drop_nil, List.nil_append, List.cons_append, List.append_nil, Nat.zero_add, Nat.reduceAdd, List.map_cons, List.map_nil, List.set_cons_zero, List.set_cons_succ]
           refine AW.ret ?_
           exact ⟨[_, _], ⟨⟨2, 0, _, _, rfl, rfl, rfl, Tryz.underlying24, .inr ⟨rfl, _, _, _, _, inf24, rfl, rfl, rfl⟩⟩, rfl, trivial⟩, .inl ⟨by decide, rfl⟩, by simp [tupOf, V.pure, V.has, V.hasL]⟩
          ·have m4 : v4 < 0 := by omega
           refine AW.seq ?_
           refine AW.seq ?_
           refine AW.region ?_
           refine AL.rp rfl rfl (rp_move rfl rfl) ?_
           refine AL.rp rfl rfl (rp_move rfl rfl) ?_
           refine AL.rp rfl rfl (rp_len_map Tryz.underlying33 rfl rfl (by assumption)) ?_
           (refine AL.rp rfl rfl (rp_lssT rfl rfl rfl (by first | assumption | omega | (dsimp only; omega))) ?_)
           refine AL.nil ?_
           try simp only [thenS, S.put, List.nil_append, List.cons_append]
           refine AW.condT rfl ?_
           refine AW.skip ?_
           try simp only [thenS, List.nil_append, List.cons_append]
           refine AW.seq ?_
           refine AW.block ?_
           refine AW.seq ?_
           refine AW.region ?_
           refine AL.rp rfl rfl (rp_move rfl rfl) ?_
           refine AL.rp rfl rfl (rp_move rfl rfl) ?_
           refine AL.rp rfl rfl (rp_index_map (k := i) Tryz.underlying33 inf9 rfl rfl rfl (by omega) (by assumption)) ?_
           refine AL.rd rfl rfl (rd_load_ad Tryz.underlying9 rfl rfl rfl rfl) ?_
           refine AL.call (post := ?pc29) rfl (sm_call (args := [_]) ?hc29 ⟨Tryz.func10, rfl, rfl, rfl, rfl⟩ rfl rfl rfl rfl) ?_
           case hc29 => exact hpx
           rintro _ rfl -
           try dsimp only
           refine AL.rp rfl rfl (rp_assign rfl rfl) ?_
           refine AL.nil ?_
           try simp only [thenS, S.put, S.newObj, setL, V.cs, List.length_cons, List.length_nil, List.take_succ_cons, List.take_zero, List.drop_succ_cons, List.drop_zero, List.drop_nil, List.nil_append, List.cons_append, List.append_nil, Nat.zero_add, Nat.reduceAdd, List.map_cons, List.map_nil, List.set_cons_zero, List.set_cons_succ]
           refine AW.seq ?_
           refine AW.seq ?_
           refine AW.region ?_
           refine AL.rp rfl rfl (rp_move rfl rfl) ?_
           (refine AL.rp rfl rfl (rp_eqlF rfl rfl rfl (by first | assumption | omega | (dsimp only; omega))) ?_)
           refine AL.nil ?_
           try simp only [thenS, S.put, List.nil_append, List.cons_append]
           refine AW.condF rfl ?_
           refine AW.skip ?_
           try simp only [thenS, List.nil_append, List.cons_append]
           refine AW.seq ?_
           refine AW.seq ?_
           refine AW.region ?_
           refine AL.rp rfl rfl (rp_move rfl rfl) ?_
           refine AL.rp rfl rfl (rp_index_map (k := 0) Tryz.underlying33 inf9 rfl rfl rfl (by omega) (by assumption)) ?_
           refine AL.rd rfl rfl (rd_load_ad Tryz.underlying9 rfl rfl rfl rfl) ?_
           refine AL.rp rfl rfl (rp_eqlsF rfl rfl rfl (by assumption)) ?_
           refine AL.rp rfl rfl (rp_move rfl rfl) ?_
           refine AL.noV rfl rfl rfl rfl ?_
           refine AL.noV rfl rfl rfl rfl ?_
           refine AL.noV rfl rfl rfl rfl ?_
           refine AL.rp rfl rfl (rp_pick rfl rfl rfl) ?_
           refine AL.nil ?_
           try simp only [thenS, S.put, List.nil_append, List.cons_append]
           refine AW.condF rfl ?_
           refine AW.skip ?_
           try simp only [thenS, List.nil_append, List.cons_append]
           refine AW.seq ?_
           refine AW.seq ?_
           refine AW.region ?_
           refine AL.rp rfl rfl (rp_move rfl rfl) ?_
           refine AL.rp rfl rfl (rp_index_map (k := 0) Tryz.underlying33 inf9 rfl rfl rfl (by omega) (by assumption)) ?_
           refine AL.rd rfl rfl (rd_load_ad Tryz.underlying9 rfl rfl rfl rfl) ?_
           refine AL.rp rfl rfl (rp_neqsF rfl rfl rfl (by assumption)) ?_
           refine AL.rp rfl rfl (rp_move rfl rfl) ?_
           refine AL.rpy rfl rfl rfl (rp_move rfl rfl) ?_
           refine AL.rpy rfl rfl rfl (rp_len_map Tryz.underlying33 rfl rfl (by assumption)) ?_
           (refine AL.rpy rfl rfl rfl (rp_neqF rfl rfl rfl (by first | assumption | omega | (dsimp only; omega))) ?_)
           refine AL.rp rfl rfl (rp_pick rfl rfl rfl) ?_
           refine AL.rp rfl rfl (rp_move rfl rfl) ?_
           refine AL.rpy rfl rfl rfl (rp_field_ref Tryz.underlying24 rfl rfl rfl inf22 (by decide) rfl) ?_
           refine AL.rdy rfl rfl rfl (rd_load_ref Tryz.underlying22 rfl rfl rfl rfl rfl rfl) ?_
           refine AL.rpy rfl rfl rfl (rp_len_own Tryz.underlying22 rfl rfl) ?_
           (refine AL.rpy rfl rfl rfl (rp_eqlF rfl rfl rfl (by first | assumption | omega | (dsimp only; omega))) ?_)
           refine AL.rp rfl rfl (rp_pick rfl rfl rfl) ?_
           refine AL.nil ?_
           try simp only [thenS, S.put, List.nil_append, List.cons_append]
           refine AW.condF rfl ?_
           refine AW.skip ?_
           try simp only [thenS, List.nil_append, List.cons_append]
           refine AW.seq ?_
           refine AW.region ?_
           refine AL.rp rfl rfl (rp_move rfl rfl) ?_
           refine AL.rp rfl rfl (rp_index_map (k := 1) Tryz.underlying33 inf9 rfl rfl rfl (by omega) (by assumption)) ?_
           refine AL.rd rfl rfl (rd_load_ad Tryz.underlying9 rfl rfl rfl rfl) ?_
           refine AL.call (post := ?pc30) rfl (sm_call (args := [_, _]) ?hc30 ⟨Tryz.func11, rfl, rfl, rfl, rfl⟩ rfl rfl rfl rfl) ?_
           case hc30 => exact hnum1
           rintro _ rfl -
           try dsimp only
           refine AL.rp rfl rfl (rp_assign rfl rfl) ?_
           refine AL.nil ?_
           try simp only [thenS, S.put, S.newObj, setL, V.cs, List.length_cons, List.length_nil, List.take_succ_cons, List.take_zero, List.drop_succ_cons, List.drop_zero, List.drop_nil, List.nil_append, List.cons_append, List.append_nil, Nat.zero_add, Nat.reduceAdd, List.map_cons, List.map_nil, List.set_cons_zero, List.set_cons_succ]
           refine AW.seq ?_
           refine AW.region ?_
           refine AL.rp rfl rfl (rp_move rfl rfl) ?_
           refine AL.rp rfl rfl (rp_index_map (k := 2) Tryz.underlying33 inf9 rfl rfl rfl (by omega) (by assumption)) ?_
           refine AL.rd rfl rfl (rd_load_ad Tryz.underlying9 rfl rfl rfl rfl) ?_
           refine AL.call (post := ?pc31) rfl (sm_call (args := [_, _]) ?hc31 ⟨Tryz.func11, rfl, rfl, rfl, rfl⟩ rfl rfl rfl rfl) ?_
           case hc31 => exact hnum2
           rintro _ rfl -
           try dsimp only
           refine AL.rp rfl rfl (rp_assign rfl rfl) ?_
           refine AL.nil ?_
           try simp only [thenS, S.put, S.newObj, setL, V.cs, List.length_cons, List.length_nil, List.take_succ_cons, List.take_zero, List.drop_succ_cons, List.drop_zero, List.drop_nil, List.nil_append, List.cons_append, List.append_nil, Nat.zero_add, Nat.reduceAdd, List.map_cons, List.map_nil, List.set_cons_zero, List.set_cons_succ]
           refine AW.seq ?_
           refine AW.region ?_
           refine AL.rp rfl rfl (rp_move rfl rfl) ?_
           refine AL.rp rfl rfl (rp_index_map (k := 3) Tryz.underlying33 inf9 rfl rfl rfl (by omega) (by assumption)) ?_
           refine AL.rd rfl rfl (rd_load_ad Tryz.underlying9 rfl rfl rfl rfl) ?_
           refine AL.call (post := ?pc32) rfl (sm_call (args := [_, _]) ?hc32 ⟨Tryz.func11, rfl, rfl, rfl, rfl⟩ rfl rfl rfl rfl) ?_
           case hc32 => exact hnum3
           rintro _ rfl -
           try dsimp only
           refine AL.rp rfl rfl (rp_assign rfl rfl) ?_
           refine AL.nil ?_
           try simp only [thenS, S.put, S.newObj, setL, V.cs, List.length_cons, List.length_nil, List.take_succ_cons, List.take_zero, List.drop_succ_cons, List.drop_zero, List.drop_nil, List.nil_append, List.cons_append, List.append_nil, Nat.zero_add, Nat.reduceAdd, List.map_cons, List.map_nil, List.set_cons_zero, List.set_cons_succ]
           refine AW.seq ?_
           refine AW.region ?_
           refine AL.rp rfl rfl (rp_move rfl rfl) ?_
           refine AL.rp rfl rfl (rp_index_map (k := 4) Tryz.underlying33 inf9 rfl rfl rfl (by omega) (by assumption)) ?_
           refine AL.rd rfl rfl (rd_load_ad Tryz.underlying9 rfl rfl rfl rfl) ?_
           refine AL.call (post := ?pc33) rfl (sm_call (args := [_, _]) ?hc33 ⟨Tryz.func11, rfl, rfl, rfl, rfl⟩ rfl rfl rfl rfl) ?_
           case hc33 => exact hnum4
           rintro _ rfl -
           try dsimp only
           refine AL.rp rfl rfl (rp_assign rfl rfl) ?_
           refine AL.nil ?_
           try simp only [thenS, S.put, S.newObj, setL, V.cs, List.length_cons, List.length_nil, List.take_succ_cons, List.take_zero, List.drop_succ_cons, List.drop_zero, List.drop_nil, List.nil_append, List.cons_append, List.append_nil, Nat.zero_add, Nat.reduceAdd, List.map_cons, List.map_nil, List.set_cons_zero, List.set_cons_succ]
           refine AW.seq ?_
           refine AW.seq ?_
           refine AW.region ?_
           refine AL.rp rfl rfl (rp_move rfl rfl) ?_
           (refine AL.rp rfl rfl (rp_lssF rfl rfl rfl (by first | assumption | omega | (dsimp only; omega))) ?_)
           refine AL.rp rfl rfl (rp_move rfl rfl) ?_
           refine AL.rpy rfl rfl rfl (rp_move rfl rfl) ?_
           (refine AL.rpy rfl rfl rfl (rp_lssF rfl rfl rfl (by first | assumption | omega | (dsimp only; omega))) ?_)
           refine AL.rp rfl rfl (rp_pick rfl rfl rfl) ?_
           refine AL.rp rfl rfl (rp_move rfl rfl) ?_
           refine AL.rpy rfl rfl rfl (rp_move rfl rfl) ?_
           (refine AL.rpy rfl rfl rfl (rp_lssF rfl rfl rfl (by first | assumption | omega | (dsimp only; omega))) ?_)
           refine AL.rp rfl rfl (rp_pick rfl rfl rfl) ?_
           refine AL.rp rfl rfl (rp_move rfl rfl) ?_
           refine AL.rpy rfl rfl rfl (rp_move rfl rfl) ?_
           (refine AL.rpy rfl rfl rfl (rp_lssT rfl rfl rfl (by first | assumption | omega | (dsimp only; omega))) ?_)
           refine AL.rp rfl rfl (rp_pick rfl rfl rfl) ?_
           refine AL.nil ?_
           try simp only [thenS, S.put, List.nil_append, List.cons_append]
           refine AW.condT rfl ?_
           refine AW.seq ?_
           refine AW.region ?_
           refine AL.rp rfl rfl (rp_build (vs := []) (zs := [.d (.p (.int .i64 0)), .d (.p (.slice none 0 0))]) pl24 inf24 rfl rfl rfl rfl) ?_
           refine AL.st rfl (st_store_any inf24 rfl rfl rfl rfl rfl rfl rfl rfl (by first | decide | (simp; done) | (simp; omega)) rfl) ?_
           refine AL.rp rfl rfl (rp_assign rfl rfl) ?_
           refine AL.nil ?_
           try simp only [thenS, S.put, S.newObj, setL, V.cs, List.length_cons, List.length_nil, List.take_succ_cons, List.take_zero, List.drop_succ_cons, List.drop_zero, List.drop_nil, List.nil_append, List.cons_append, List.append_nil, Nat.zero_add, Nat.reduceAdd, List.map_cons, List.map_nil, List.set_cons_zero, List.set_cons_succ]
           refine AW.ret ?_
           exact ⟨[_, _], ⟨⟨2, 0, _, _, rfl, rfl, rfl, Tryz.underlying24, .inr ⟨rfl, _, _, _, _, inf24, rfl, rfl, rfl⟩⟩, rfl, trivial⟩, .inl ⟨by decide, rfl⟩, by simp [tupOf, V.pure, V.has, V.hasL]⟩
       ·rw [if_neg hneg] at hsucc
        obtain ⟨p, hp⟩ : ∃ p, sts.length = p + 1 := ⟨sts.length - 1, by omega⟩
        obtain ⟨x, hx⟩ := get_lt hp (show p < p + 1 by omega)
        rw [putA_set _ hx hp] at hsucc
        have hsz2 := szM_put (a := ⟨v2, v3, v4, v1⟩) hsz hx
        have hxa := hsz.2 x (List.mem_of_getElem? hx)
        obtain ⟨xf, xs⟩ := x
        simp only at hxa hsucc hsz2
        obtain rfl : z = false := by rw [hz]; cases sts with | nil => exact absurd rfl hne0 | cons => rfl
        have hset : (sts.set p ⟨xf, xs ++ [⟨v2, v3, v4, v1⟩]⟩)[p]? = some ⟨xf, xs ++ [⟨v2, v3, v4, v1⟩]⟩ := by rw [List.getElem?_set_self (by omega)]
        have hlen0 : (FS.it ⟨xf, xs⟩).length ≤ 1000000 := by simp [FS]; omega
        clear hbad'
        rw [hp]
        refine AW.seq ?_
        refine AW.seq ?_
        refine AW.region ?_
        refine AL.rp rfl rfl (rp_move rfl rfl) ?_
        refine AL.rp rfl rfl (rp_move rfl rfl) ?_
        refine AL.rp rfl rfl (rp_len_map Tryz.underlying33 rfl rfl (by assumption)) ?_
        (refine AL.rp rfl rfl (rp_lssT rfl rfl rfl (by first | assumption | omega | (dsimp only; omega))) ?_)
        refine AL.nil ?_
        try simp only [thenS, S.put, List.nil_append, List.cons_append]
        refine AW.condT rfl ?_
        refine AW.skip ?_
        try simp only [thenS, List.nil_append, List.cons_append]
        refine AW.seq ?_
        refine AW.block ?_
        refine AW.seq ?_
        refine AW.region ?_
        refine AL.rp rfl rfl (rp_move rfl rfl) ?_
        refine AL.rp rfl rfl (rp_move rfl rfl) ?_
        refine AL.rp rfl rfl (rp_index_map (k := i) Tryz.underlying33 inf9 rfl rfl rfl (by omega) (by assumption)) ?_
        refine AL.rd rfl rfl (rd_load_ad Tryz.underlying9 rfl rfl rfl rfl) ?_
        refine AL.call (post := ?pc34) rfl (sm_call (args := [_]) ?hc34 ⟨Tryz.func10, rfl, rfl, rfl, rfl⟩ rfl rfl rfl rfl) ?_
        case hc34 => exact hpx
        rintro _ rfl -
        try dsimp only
        refine AL.rp rfl rfl (rp_assign rfl rfl) ?_
        refine AL.nil ?_
        try simp only [thenS, S.put, S.newObj, setL, V.cs, List.length_cons, List.length_nil, List.take_succ_cons, List.take_zero, List.drop_succ_cons, List.drop_zero, List.drop_nil, List.nil_append, List.cons_append, List.append_nil, Nat.zero_add, Nat.reduceAdd, List.map_cons, List.map_nil, List.set_cons_zero, List.set_cons_succ]
        refine AW.seq ?_
        refine AW.seq ?_
        refine AW.region ?_
        refine AL.rp rfl rfl (rp_move rfl rfl) ?_
        (refine AL.rp rfl rfl (rp_eqlF rfl rfl rfl (by first | assumption | omega | (dsimp only; omega))) ?_)
        refine AL.nil ?_
        try simp only [thenS, S.put, List.nil_append, List.cons_append]
        refine AW.condF rfl ?_
        refine AW.skip ?_
        try simp only [thenS, List.nil_append, List.cons_append]
        refine AW.seq ?_
        refine AW.seq ?_
        refine AW.region ?_
        refine AL.rp rfl rfl (rp_move rfl rfl) ?_
        refine AL.rp rfl rfl (rp_index_map (k := 0) Tryz.underlying33 inf9 rfl rfl rfl (by omega) (by assumption)) ?_
        refine AL.rd rfl rfl (rd_load_ad Tryz.underlying9 rfl rfl rfl rfl) ?_
        refine AL.rp rfl rfl (rp_eqlsF rfl rfl rfl (by assumption)) ?_
        refine AL.rp rfl rfl (rp_move rfl rfl) ?_
        refine AL.noV rfl rfl rfl rfl ?_
        refine AL.noV rfl rfl rfl rfl ?_
        refine AL.noV rfl rfl rfl rfl ?_
        refine AL.rp rfl rfl (rp_pick rfl rfl rfl) ?_
        refine AL.nil ?_
        try simp only [thenS, S.put, List.nil_append, List.cons_append]
        refine AW.condF rfl ?_
        refine AW.skip ?_
        try simp only [thenS, List.nil_append, List.cons_append]
        refine AW.seq ?_
        refine AW.seq ?_
        refine AW.region ?_
        refine AL.rp rfl rfl (rp_move rfl rfl) ?_
        refine AL.rp rfl rfl (rp_index_map (k := 0) Tryz.underlying33 inf9 rfl rfl rfl (by omega) (by assumption)) ?_
        refine AL.rd rfl rfl (rd_load_ad Tryz.underlying9 rfl rfl rfl rfl) ?_
        refine AL.rp rfl rfl (rp_neqsF rfl rfl rfl (by assumption)) ?_
        refine AL.rp rfl rfl (rp_move rfl rfl) ?_
        refine AL.rpy rfl rfl rfl (rp_move rfl rfl) ?_
        refine AL.rpy rfl rfl rfl (rp_len_map Tryz.underlying33 rfl rfl (by assumption)) ?_
        (refine AL.rpy rfl rfl rfl (rp_neqF rfl rfl rfl (by first | assumption | omega | (dsimp only; omega))) ?_)
        refine AL.rp rfl rfl (rp_pick rfl rfl rfl) ?_
        refine AL.rp rfl rfl (rp_move rfl rfl) ?_
        refine AL.rpy rfl rfl rfl (rp_field_ref Tryz.underlying24 rfl rfl rfl inf22 (by decide) rfl) ?_
        refine AL.rdy rfl rfl rfl (rd_load_ref Tryz.underlying22 rfl rfl rfl rfl rfl rfl) ?_
        refine AL.rpy rfl rfl rfl (rp_len_own Tryz.underlying22 rfl rfl) ?_
        (refine AL.rpy rfl rfl rfl (rp_eqlF rfl rfl rfl (by first | assumption | omega | (dsimp only; omega))) ?_)
        refine AL.rp rfl rfl (rp_pick rfl rfl rfl) ?_
        refine AL.nil ?_
        try simp only [thenS, S.put, List.nil_append, List.cons_append]
        refine AW.condF rfl ?_
        refine AW.skip ?_
        try simp only [thenS, List.nil_append, List.cons_append]
        refine AW.seq ?_
        refine AW.region ?_
        refine AL.rp rfl rfl (rp_move rfl rfl) ?_
        refine AL.rp rfl rfl (rp_index_map (k := 1) Tryz.underlying33 inf9 rfl rfl rfl (by omega) (by assumption)) ?_
        refine AL.rd rfl rfl (rd_load_ad Tryz.underlying9 rfl rfl rfl rfl) ?_
        refine AL.call (post := ?pc35) rfl (sm_call (args := [_, _]) ?hc35 ⟨Tryz.func11, rfl, rfl, rfl, rfl⟩ rfl rfl rfl rfl) ?_
        case hc35 => exact hnum1
        rintro _ rfl -
        try dsimp only
        refine AL.rp rfl rfl (rp_assign rfl rfl) ?_
        refine AL.nil ?_
        try simp only [thenS, S.put, S.newObj, setL, V.cs, List.length_cons, List.length_nil, List.take_succ_cons, List.take_zero, List.drop_succ_cons, List.drop_zero, List.drop_nil, List.nil_append, List.cons_append, List.append_nil, Nat.zero_add, Nat.reduceAdd, List.map_cons, List.map_nil, List.set_cons_zero, List.set_cons_succ]
        refine AW.seq ?_
        refine AW.region ?_
        refine AL.rp rfl rfl (rp_move rfl rfl) ?_
        refine AL.rp rfl rfl (rp_index_map (k := 2) Tryz.underlying33 inf9 rfl rfl rfl (by omega) (by assumption)) ?_
        refine AL.rd rfl rfl (rd_load_ad Tryz.underlying9 rfl rfl rfl rfl) ?_
        refine AL.call (post := ?pc36) rfl (sm_call (args := [_, _]) ?hc36 ⟨Tryz.func11, rfl, rfl, rfl, rfl⟩ rfl rfl rfl rfl) ?_
        case hc36 => exact hnum2
        rintro _ rfl -
        try dsimp only
        refine AL.rp rfl rfl (rp_assign rfl rfl) ?_
        refine AL.nil ?_
        try simp only [thenS, S.put, S.newObj, setL, V.cs, List.length_cons, List.length_nil, List.take_succ_cons, List.take_zero, List.drop_succ_cons, List.drop_zero, List.drop_nil, List.nil_append, List.cons_append, List.append_nil, Nat.zero_add, Nat.reduceAdd, List.map_cons, List.map_nil, List.set_cons_zero, List.set_cons_succ]
        refine AW.seq ?_
        refine AW.region ?_
        refine AL.rp rfl rfl (rp_move rfl rfl) ?_
        refine AL.rp rfl rfl (rp_index_map (k := 3) Tryz.underlying33 inf9 rfl rfl rfl (by omega) (by assumption)) ?_
        refine AL.rd rfl rfl (rd_load_ad Tryz.underlying9 rfl rfl rfl rfl) ?_
        refine AL.call (post := ?pc37) rfl (sm_call (args := [_, _]) ?hc37 ⟨Tryz.func11, rfl, rfl, rfl, rfl⟩ rfl rfl rfl rfl) ?_
        case hc37 => exact hnum3
        rintro _ rfl -
        try dsimp only
        refine AL.rp rfl rfl (rp_assign rfl rfl) ?_
        refine AL.nil ?_
        try simp only [thenS, S.put, S.newObj, setL, V.cs, List.length_cons, List.length_nil, List.take_succ_cons, List.take_zero, List.drop_succ_cons, List.drop_zero, List.drop_nil, List.nil_append, List.cons_append, List.append_nil, Nat.zero_add, Nat.reduceAdd, List.map_cons, List.map_nil, List.set_cons_zero, List.set_cons_succ]
        refine AW.seq ?_
        refine AW.region ?_
        refine AL.rp rfl rfl (rp_move rfl rfl) ?_
        refine AL.rp rfl rfl (rp_index_map (k := 4) Tryz.underlying33 inf9 rfl rfl rfl (by omega) (by assumption)) ?_
        refine AL.rd rfl rfl (rd_load_ad Tryz.underlying9 rfl rfl rfl rfl) ?_
        refine AL.call (post := ?pc38) rfl (sm_call (args := [_, _]) ?hc38 ⟨Tryz.func11, rfl, rfl, rfl, rfl⟩ rfl rfl rfl rfl) ?_
        case hc38 => exact hnum4
        rintro _ rfl -
        try dsimp only
        refine AL.rp rfl rfl (rp_assign rfl rfl) ?_
        refine AL.nil ?_
        try simp only [thenS, S.put, S.newObj, setL, V.cs, List.length_cons, List.length_nil, List.take_succ_cons, List.take_zero, List.drop_succ_cons, List.drop_zero, List.drop_nil, List.nil_append, List.cons_append, List.append_nil, Nat.zero_add, Nat.reduceAdd, List.map_cons, List.map_nil, List.set_cons_zero, List.set_cons_succ]
        refine AW.seq ?_
        refine AW.seq ?_
        refine AW.region ?_
        refine AL.rp rfl rfl (rp_move rfl rfl) ?_
        (refine AL.rp rfl rfl (rp_lssF rfl rfl rfl (by first | assumption | omega | (dsimp only; omega))) ?_)
        refine AL.rp rfl rfl (rp_move rfl rfl) ?_
        refine AL.rpy rfl rfl rfl (rp_move rfl rfl) ?_
        (refine AL.rpy rfl rfl rfl (rp_lssF rfl rfl rfl (by first | assumption | omega | (dsimp only; omega))) ?_)
        refine AL.rp rfl rfl (rp_pick rfl rfl rfl) ?_
        refine AL.rp rfl rfl (rp_move rfl rfl) ?_
        refine AL.rpy rfl rfl rfl (rp_move rfl rfl) ?_
        (refine AL.rpy rfl rfl rfl (rp_lssF rfl rfl rfl (by first | assumption | omega | (dsimp only; omega))) ?_)
        refine AL.rp rfl rfl (rp_pick rfl rfl rfl) ?_
        refine AL.rp rfl rfl (rp_move rfl rfl) ?_
        refine AL.rpy rfl rfl rfl (rp_move rfl rfl) ?_
        (refine AL.rpy rfl rfl rfl (rp_lssF rfl rfl rfl (by first | assumption | omega | (dsimp only; omega))) ?_)
        refine AL.rp rfl rfl (rp_pick rfl rfl rfl) ?_
        refine AL.nil ?_
        try simp only [thenS, S.put, List.nil_append, List.cons_append]
        refine AW.condF rfl ?_
        refine AW.skip ?_
        try simp only [thenS, List.nil_append, List.cons_append]
        refine AW.seq ?_
        refine AW.region ?_
        refine AL.rp rfl rfl (rp_field_ref Tryz.underlying24 rfl rfl rfl inf22 (by decide) rfl) ?_
        refine AL.rd rfl rfl (rd_load_ref Tryz.underlying22 rfl rfl rfl rfl rfl rfl) ?_
        refine AL.rp rfl rfl (rp_len_own Tryz.underlying22 rfl rfl) ?_
        refine AL.rp rfl rfl (rp_sub rfl rfl rfl (by first | omega | (dsimp only; omega))) ?_
        refine AL.rp rfl rfl (rp_assign rfl rfl) ?_
        refine AL.nil ?_
        try simp only [thenS, S.put, List.nil_append, List.cons_append]
        refine AW.drawX (1000 + p) [(0, true), (1, true), (2, true), (3, true), (4, true), (5, true), (6, true), (7, true), (8, true), (9, true), (10, true), (11, true), (12, true), (13, true), (14, false), (15, false), (16, false), (17, false), (18, false)] (fun i => !([16, 17, 18] : List Nat).contains i) 19 (by kernel_rfl) (by kernel_rfl) rfl (by kernel_rfl) ?_
        refine AE1.rp rfl rfl rfl (fun _ _ h => h) (rp_field_ref Tryz.underlying24 rfl rfl rfl inf22 (by decide) rfl) ?_
        refine AE1.rx rfl rfl rfl (fun _ _ h => h) (rx_load_ref Tryz.underlying22 rfl rfl rfl rfl rfl rfl (by first | decide | omega)) ?_
        refine AE1.rp rfl rfl rfl (fun _ _ h => h) (rp_move rfl rfl) ?_
        refine AE1.rp rfl rfl rfl (fun _ _ h => h) (rp_field_ref Tryz.underlying24 rfl rfl rfl inf22 (by decide) rfl) ?_
        refine AE1.rx rfl rfl rfl (fun _ _ h => h) (rx_load_ref Tryz.underlying22 rfl rfl rfl rfl rfl rfl (by first | decide | omega)) ?_
        refine AE1.rp rfl rfl rfl (fun _ _ h => h) (rp_move rfl rfl) ?_
        refine AE1.rp rfl rfl rfl (fun _ _ h => h) (rp_index_own (k := p) Tryz.underlying22 inf42 rfl rfl rfl (by omega) (by omega)) ?_
        refine AE1.rp rfl rfl rfl (fun _ _ h => h) (rp_field_ref Tryz.underlying42 rfl rfl rfl inf40 (by decide) rfl) ?_
        refine AE1.rx rfl rfl rfl (fun _ _ h => h) (rx_load_fam (m := 1) Tryz.underlying40 rfl rfl rfl rfl rfl rfl (fun _ => rfl) rfl (by assumption) (by first | decide | omega)) ?_
        refine AE1.rp rfl rfl rfl (fun _ _ h => h) (rp_move rfl rfl) ?_
        refine AE1.rp rfl rfl rfl (fun _ _ h => h) (rp_move rfl rfl) ?_
        refine AE1.rp rfl rfl rfl (fun _ _ h => h) (rp_move rfl rfl) ?_
        refine AE1.rp rfl rfl rfl (fun _ _ h => h) (rp_move rfl rfl) ?_
        refine AE1.rp rfl rfl rfl (fun _ _ h => h) (rp_build (vs := [(0, _), (1, _), (2, _), (3, _)]) (zs := [.d (.p (.int .i64 0)), .d (.p (.int .i64 0)), .d (.p (.int .i64 0)), .d (.p (.int .i64 0))]) pl44 inf44 rfl rfl rfl rfl) ?_
        refine AE1.go ?_
        refine AE2.sm rfl rfl (sm_sliceG (vs := [(0, _)]) (zs := [.d (.p (.int .i64 0)), .d (.p (.int .i64 0)), .d (.p (.int .i64 0)), .d (.p (.int .i64 0))]) 161 Tryz.underlying40 inf44 rfl rfl (by decide) (by decide) (by decide) rfl rfl rfl rfl (by first | rfl | (simp only [S.clean, S.put, S.newObj, List.all_cons, objs_clean_low, Nat.reduceLT]; simp [S.forget, V.has, V.hasL, junkIf, setL, V.cs, hasL_i, hasL_b, hasL_s, hasL_n, hasL_rep, hasL_flat, hasL_append, cells_hasL_low, has_ownV, hasL_frep, nb1, nb2, nb3, nb4, -List.map_set]; try omega)) rfl rfl) (by first | decide | omega) ?_
        (refine AE2.st rfl rfl (st_append_famX (lits := [_, _, _, _]) (x' := ⟨xf, xs ++ [⟨v2, v3, v4, v1⟩]⟩) (m := 1) (newrow := arD ⟨v2, v3, v4, v1⟩) (rb := 901) Tryz.underlying40 inf44 rfl (by decide) (by decide) rfl rfl rfl (by assumption) (fun _ => rfl) (by intro x l hl; simp [FS] at hl; first | (obtain ⟨_, _, rfl⟩ := hl; rfl) | (obtain ⟨_, _, _, rfl⟩ := hl; rfl) | (rcases hl with ⟨_, _, rfl⟩ <;> rfl)) rfl rfl rfl rfl rfl rfl rfl rfl (by simp [FS]) rfl rfl (by simp [V.hasL, V.has, nb1, nb2, nb3, nb4, setL, V.cs, hasL_i, hasL_b, hasL_s, hasL_n, hasL_rep, hasL_flat, hasL_append, -List.map_set]; try omega) (by first | assumption | (simp [FS]; omega))) ?_)
        try simp only [S.put, S.newObj, List.map_cons, List.map_nil, junkHi, V.low, V.lowL, low_ownV, Nat.reduceLT, decide_true, decide_false, Bool.and_true, Bool.true_and, if_true, if_false, Bool.false_eq_true, ite_true, ite_false, ↓reduceIte, List.cons_append, List.nil_append]
        refine AD3.rp1 rfl rfl rfl rfl (rp_index_own (k := p) Tryz.underlying22 inf42 rfl rfl rfl (by omega) (by omega)) ?_
        refine AD3.rp1 rfl rfl rfl rfl (rp_field_ref Tryz.underlying42 rfl rfl rfl inf40 (by decide) rfl) ?_
        (refine AD3.st rfl rfl rfl (st_store_fam (m := 1) inf40 rfl rfl rfl rfl rfl rfl (fun _ => rfl) rfl rfl (by first | assumption | (simp; omega))) ?_)
        refine AD3.nil ?_
        try simp only [thenS, S.put, S.newObj, setL, V.cs, List.length_cons, List.length_nil, List.take_succ_cons, List.take_zero, List.drop_succ_cons, List.drop_zero, List.drop_nil, List.nil_append, List.cons_append, List.append_nil, Nat.zero_add, Nat.reduceAdd, List.map_cons, List.map_nil, List.set_cons_zero, List.set_cons_succ]
        refine AW.region ?_
        refine AL.rp rfl rfl (rp_move rfl rfl) ?_
        refine AL.rp rfl rfl (rp_add rfl rfl rfl (by first | omega | (dsimp only; omega))) ?_
        refine AL.rp rfl rfl (rp_assign rfl rfl) ?_
        refine AL.nil ?_
        try simp only [thenS, S.put, List.nil_append, List.cons_append]
        refine ⟨_, ?_, ⟨i + 1, ⟨st, sts.set p ⟨xf, xs ++ [⟨v2, v3, v4, v1⟩]⟩⟩, false, by omega, hsucc, hsz2, ?_, rfl⟩, ?_⟩
        ·rw [List.length_set, hp]
         exact (Less.of rfl (by repeat (first | exact trivial | refine ⟨⟨_, rfl, Wk.refl _⟩, ?_⟩ | refine ⟨⟨_, rfl, Wk.nil _ _⟩, ?_⟩ | refine ⟨⟨_, rfl, Wk.junk _⟩, ?_⟩)) (by repeat (first | exact trivial | refine ⟨rfl, ?_⟩ | exact LH.fam | refine LH.skip (by decide) ?_)) rfl)
        ·cases sts with
         | nil => exact absurd rfl hne0
         | cons => cases p <;> rfl
        ·simp [S.nat, fnd]; omega
      ·rw [if_neg ha] at hsucc
       rw [hbad' hsucc]
       by_cases hpS : p0 = wSa
       ·subst hpS
        have hn2 : NP ≠ 2 := fun h => hs ⟨rfl, h⟩
        have hcS : bs wSa = ⟨#[115, 116, 97, 116, 101]⟩ := rfl
        have hcA : (bs wSa).data.toList ≠ (⟨#[97, 114, 99]⟩ : ByteArray).data.toList := by decide
        refine AW.seq ?_
        refine AW.seq ?_
        refine AW.region ?_
        refine AL.rp rfl rfl (rp_move rfl rfl) ?_
        refine AL.rp rfl rfl (rp_move rfl rfl) ?_
        refine AL.rp rfl rfl (rp_len_map Tryz.underlying33 rfl rfl (by assumption)) ?_
        (refine AL.rp rfl rfl (rp_lssT rfl rfl rfl (by first | assumption | omega | (dsimp only; omega))) ?_)
        refine AL.nil ?_
        try simp only [thenS, S.put, List.nil_append, List.cons_append]
        refine AW.condT rfl ?_
        refine AW.skip ?_
        try simp only [thenS, List.nil_append, List.cons_append]
        refine AW.seq ?_
        refine AW.block ?_
        refine AW.seq ?_
        refine AW.region ?_
        refine AL.rp rfl rfl (rp_move rfl rfl) ?_
        refine AL.rp rfl rfl (rp_move rfl rfl) ?_
        refine AL.rp rfl rfl (rp_index_map (k := i) Tryz.underlying33 inf9 rfl rfl rfl (by omega) (by assumption)) ?_
        refine AL.rd rfl rfl (rd_load_ad Tryz.underlying9 rfl rfl rfl rfl) ?_
        refine AL.call (post := ?pc39) rfl (sm_call (args := [_]) ?hc39 ⟨Tryz.func10, rfl, rfl, rfl, rfl⟩ rfl rfl rfl rfl) ?_
        case hc39 => exact hpx
        rintro _ rfl -
        try dsimp only
        refine AL.rp rfl rfl (rp_assign rfl rfl) ?_
        refine AL.nil ?_
        try simp only [thenS, S.put, S.newObj, setL, V.cs, List.length_cons, List.length_nil, List.take_succ_cons, List.take_zero, List.drop_succ_cons, List.drop_zero, List.drop_nil, List.nil_append, List.cons_append, List.append_nil, Nat.zero_add, Nat.reduceAdd, List.map_cons, List.map_nil, List.set_cons_zero, List.set_cons_succ]
        refine AW.seq ?_
        refine AW.seq ?_
        refine AW.region ?_
        refine AL.rp rfl rfl (rp_move rfl rfl) ?_
        (refine AL.rp rfl rfl (rp_eqlF rfl rfl rfl (by first | assumption | omega | (dsimp only; omega))) ?_)
        refine AL.nil ?_
        try simp only [thenS, S.put, List.nil_append, List.cons_append]
        refine AW.condF rfl ?_
        refine AW.skip ?_
        try simp only [thenS, List.nil_append, List.cons_append]
        refine AW.seq ?_
        refine AW.seq ?_
        refine AW.region ?_
        refine AL.rp rfl rfl (rp_move rfl rfl) ?_
        refine AL.rp rfl rfl (rp_index_map (k := 0) Tryz.underlying33 inf9 rfl rfl rfl (by omega) (by assumption)) ?_
        refine AL.rd rfl rfl (rd_load_ad Tryz.underlying9 rfl rfl rfl rfl) ?_
        refine AL.rp rfl rfl (rp_eqlsT rfl rfl rfl (by assumption)) ?_
        refine AL.rp rfl rfl (rp_move rfl rfl) ?_
        refine AL.rpy rfl rfl rfl (rp_move rfl rfl) ?_
        refine AL.rpy rfl rfl rfl (rp_len_map Tryz.underlying33 rfl rfl (by assumption)) ?_
        (refine AL.rpy rfl rfl rfl (rp_eqlF rfl rfl rfl (by first | assumption | omega | (dsimp only; omega))) ?_)
        refine AL.rp rfl rfl (rp_pick rfl rfl rfl) ?_
        refine AL.nil ?_
        try simp only [thenS, S.put, List.nil_append, List.cons_append]
        refine AW.condF rfl ?_
        refine AW.skip ?_
        try simp only [thenS, List.nil_append, List.cons_append]
        refine AW.seq ?_
        refine AW.seq ?_
        refine AW.region ?_
        refine AL.rp rfl rfl (rp_move rfl rfl) ?_
        refine AL.rp rfl rfl (rp_index_map (k := 0) Tryz.underlying33 inf9 rfl rfl rfl (by omega) (by assumption)) ?_
        refine AL.rd rfl rfl (rd_load_ad Tryz.underlying9 rfl rfl rfl rfl) ?_
        refine AL.rp rfl rfl (rp_neqsT rfl rfl rfl (by assumption)) ?_
        refine AL.rp rfl rfl (rp_move rfl rfl) ?_
        refine AL.noV rfl rfl rfl rfl ?_
        refine AL.noV rfl rfl rfl rfl ?_
        refine AL.noV rfl rfl rfl rfl ?_
        refine AL.rp rfl rfl (rp_pick rfl rfl rfl) ?_
        refine AL.rp rfl rfl (rp_move rfl rfl) ?_
        refine AL.noV rfl rfl rfl rfl ?_
        refine AL.noV rfl rfl rfl rfl ?_
        refine AL.noV rfl rfl rfl rfl ?_
        refine AL.noV rfl rfl rfl rfl ?_
        refine AL.rp rfl rfl (rp_pick rfl rfl rfl) ?_
        refine AL.nil ?_
        try simp only [thenS, S.put, List.nil_append, List.cons_append]
        refine AW.condT rfl ?_
        refine AW.seq ?_
        refine AW.region ?_
        refine AL.rp rfl rfl (rp_build (vs := []) (zs := [.d (.p (.int .i64 0)), .d (.p (.slice none 0 0))]) pl24 inf24 rfl rfl rfl rfl) ?_
        refine AL.st rfl (st_store_any inf24 rfl rfl rfl rfl rfl rfl rfl rfl (by first | decide | (simp; done) | (simp; omega)) rfl) ?_
        refine AL.rp rfl rfl (rp_assign rfl rfl) ?_
        refine AL.nil ?_
        try simp only [thenS, S.put, S.newObj, setL, V.cs, List.length_cons, List.length_nil, List.take_succ_cons, List.take_zero, List.drop_succ_cons, List.drop_zero, List.drop_nil, List.nil_append, List.cons_append, List.append_nil, Nat.zero_add, Nat.reduceAdd, List.map_cons, List.map_nil, List.set_cons_zero, List.set_cons_succ]
        refine AW.ret ?_
        exact ⟨[_, _], ⟨⟨2, 0, _, _, rfl, rfl, rfl, Tryz.underlying24, .inr ⟨rfl, _, _, _, _, inf24, rfl, rfl, rfl⟩⟩, rfl, trivial⟩, .inl ⟨by decide, rfl⟩, by simp [tupOf, V.pure, V.has, V.hasL]⟩
       ·have hcS : (bs p0).data.toList ≠ (⟨#[115, 116, 97, 116, 101]⟩ : ByteArray).data.toList := by rw [bs_list]; exact hpS
        by_cases hpA : p0 = wAr
        ·subst hpA
         have hcA : bs wAr = ⟨#[97, 114, 99]⟩ := rfl
         by_cases h5 : NP = 5
         ·have hl0 : sts.length = 0 := Classical.byContradiction fun h => ha ⟨rfl, h5, h⟩
          refine AW.seq ?_
          refine AW.seq ?_
          refine AW.region ?_
          refine AL.rp rfl rfl (rp_move rfl rfl) ?_
          refine AL.rp rfl rfl (rp_move rfl rfl) ?_
          refine AL.rp rfl rfl (rp_len_map Tryz.underlying33 rfl rfl (by assumption)) ?_
          (refine AL.rp rfl rfl (rp_lssT rfl rfl rfl (by first | assumption | omega | (dsimp only; omega))) ?_)
          refine AL.nil ?_
          try simp only [thenS, S.put, List.nil_append, List.cons_append]
          refine AW.condT rfl ?_
          refine AW.skip ?_
          try simp only [thenS, List.nil_append, List.cons_append]
          refine AW.seq ?_
          refine AW.block ?_
          refine AW.seq ?_
          refine AW.region ?_
          refine AL.rp rfl rfl (rp_move rfl rfl) ?_
          refine AL.rp rfl rfl (rp_move rfl rfl) ?_
          refine AL.rp rfl rfl (rp_index_map (k := i) Tryz.underlying33 inf9 rfl rfl rfl (by omega) (by assumption)) ?_
          refine AL.rd rfl rfl (rd_load_ad Tryz.underlying9 rfl rfl rfl rfl) ?_
          refine AL.call (post := ?pc40) rfl (sm_call (args := [_]) ?hc40 ⟨Tryz.func10, rfl, rfl, rfl, rfl⟩ rfl rfl rfl rfl) ?_
          case hc40 => exact hpx
          rintro _ rfl -
          try dsimp only
          refine AL.rp rfl rfl (rp_assign rfl rfl) ?_
          refine AL.nil ?_
          try simp only [thenS, S.put, S.newObj, setL, V.cs, List.length_cons, List.length_nil, List.take_succ_cons, List.take_zero, List.drop_succ_cons, List.drop_zero, List.drop_nil, List.nil_append, List.cons_append, List.append_nil, Nat.zero_add, Nat.reduceAdd, List.map_cons, List.map_nil, List.set_cons_zero, List.set_cons_succ]
          refine AW.seq ?_
          refine AW.seq ?_
          refine AW.region ?_
          refine AL.rp rfl rfl (rp_move rfl rfl) ?_
          (refine AL.rp rfl rfl (rp_eqlF rfl rfl rfl (by first | assumption | omega | (dsimp only; omega))) ?_)
          refine AL.nil ?_
          try simp only [thenS, S.put, List.nil_append, List.cons_append]
          refine AW.condF rfl ?_
          refine AW.skip ?_
          try simp only [thenS, List.nil_append, List.cons_append]
          refine AW.seq ?_
          refine AW.seq ?_
          refine AW.region ?_
          refine AL.rp rfl rfl (rp_move rfl rfl) ?_
          refine AL.rp rfl rfl (rp_index_map (k := 0) Tryz.underlying33 inf9 rfl rfl rfl (by omega) (by assumption)) ?_
          refine AL.rd rfl rfl (rd_load_ad Tryz.underlying9 rfl rfl rfl rfl) ?_
          refine AL.rp rfl rfl (rp_eqlsF rfl rfl rfl (by assumption)) ?_
          refine AL.rp rfl rfl (rp_move rfl rfl) ?_
          refine AL.noV rfl rfl rfl rfl ?_
          refine AL.noV rfl rfl rfl rfl ?_
          refine AL.noV rfl rfl rfl rfl ?_
          refine AL.rp rfl rfl (rp_pick rfl rfl rfl) ?_
          refine AL.nil ?_
          try simp only [thenS, S.put, List.nil_append, List.cons_append]
          refine AW.condF rfl ?_
          refine AW.skip ?_
          try simp only [thenS, List.nil_append, List.cons_append]
          refine AW.seq ?_
          refine AW.seq ?_
          refine AW.region ?_
          refine AL.rp rfl rfl (rp_move rfl rfl) ?_
          refine AL.rp rfl rfl (rp_index_map (k := 0) Tryz.underlying33 inf9 rfl rfl rfl (by omega) (by assumption)) ?_
          refine AL.rd rfl rfl (rd_load_ad Tryz.underlying9 rfl rfl rfl rfl) ?_
          refine AL.rp rfl rfl (rp_neqsF rfl rfl rfl (by assumption)) ?_
          refine AL.rp rfl rfl (rp_move rfl rfl) ?_
          refine AL.rpy rfl rfl rfl (rp_move rfl rfl) ?_
          refine AL.rpy rfl rfl rfl (rp_len_map Tryz.underlying33 rfl rfl (by assumption)) ?_
          (refine AL.rpy rfl rfl rfl (rp_neqF rfl rfl rfl (by first | assumption | omega | (dsimp only; omega))) ?_)
          refine AL.rp rfl rfl (rp_pick rfl rfl rfl) ?_
          refine AL.rp rfl rfl (rp_move rfl rfl) ?_
          refine AL.rpy rfl rfl rfl (rp_field_ref Tryz.underlying24 rfl rfl rfl inf22 (by decide) rfl) ?_
          refine AL.rdy rfl rfl rfl (rd_load_ref Tryz.underlying22 rfl rfl rfl rfl rfl rfl) ?_
          refine AL.rpy rfl rfl rfl (rp_len_own Tryz.underlying22 rfl rfl) ?_
          (refine AL.rpy rfl rfl rfl (rp_eqlT rfl rfl rfl (by first | assumption | omega | (dsimp only; omega))) ?_)
          refine AL.rp rfl rfl (rp_pick rfl rfl rfl) ?_
          refine AL.nil ?_
          try simp only [thenS, S.put, List.nil_append, List.cons_append]
          refine AW.condT rfl ?_
          refine AW.seq ?_
          refine AW.region ?_
          refine AL.rp rfl rfl (rp_build (vs := []) (zs := [.d (.p (.int .i64 0)), .d (.p (.slice none 0 0))]) pl24 inf24 rfl rfl rfl rfl) ?_
          refine AL.st rfl (st_store_any inf24 rfl rfl rfl rfl rfl rfl rfl rfl (by first | decide | (simp; done) | (simp; omega)) rfl) ?_
          refine AL.rp rfl rfl (rp_assign rfl rfl) ?_
          refine AL.nil ?_
          try simp only [thenS, S.put, S.newObj, setL, V.cs, List.length_cons, List.length_nil, List.take_succ_cons, List.take_zero, List.drop_succ_cons, List.drop_zero, List.drop_nil, List.nil_append, List.cons_append, List.append_nil, Nat.zero_add, Nat.reduceAdd, List.map_cons, List.map_nil, List.set_cons_zero, List.set_cons_succ]
          refine AW.ret ?_
          exact ⟨[_, _], ⟨⟨2, 0, _, _, rfl, rfl, rfl, Tryz.underlying24, .inr ⟨rfl, _, _, _, _, inf24, rfl, rfl, rfl⟩⟩, rfl, trivial⟩, .inl ⟨by decide, rfl⟩, by simp [tupOf, V.pure, V.has, V.hasL]⟩
         ·skip
          refine AW.seq ?_
          refine AW.seq ?_
          refine AW.region ?_
          refine AL.rp rfl rfl (rp_move rfl rfl) ?_
          refine AL.rp rfl rfl (rp_move rfl rfl) ?_
          refine AL.rp rfl rfl (rp_len_map Tryz.underlying33 rfl rfl (by assumption)) ?_
          (refine AL.rp rfl rfl (rp_lssT rfl rfl rfl (by first | assumption | omega | (dsimp only; omega))) ?_)
          refine AL.nil ?_
          try simp only [thenS, S.put, List.nil_append, List.cons_append]
          refine AW.condT rfl ?_
          refine AW.skip ?_
          try simp only [thenS, List.nil_append, List.cons_append]
          refine AW.seq ?_
          refine AW.block ?_
          refine AW.seq ?_
          refine AW.region ?_
          refine AL.rp rfl rfl (rp_move rfl rfl) ?_
          refine AL.rp rfl rfl (rp_move rfl rfl) ?_
          refine AL.rp rfl rfl (rp_index_map (k := i) Tryz.underlying33 inf9 rfl rfl rfl (by omega) (by assumption)) ?_
          refine AL.rd rfl rfl (rd_load_ad Tryz.underlying9 rfl rfl rfl rfl) ?_
          refine AL.call (post := ?pc41) rfl (sm_call (args := [_]) ?hc41 ⟨Tryz.func10, rfl, rfl, rfl, rfl⟩ rfl rfl rfl rfl) ?_
          case hc41 => exact hpx
          rintro _ rfl -
          try dsimp only
          refine AL.rp rfl rfl (rp_assign rfl rfl) ?_
          refine AL.nil ?_
          try simp only [thenS, S.put, S.newObj, setL, V.cs, List.length_cons, List.length_nil, List.take_succ_cons, List.take_zero, List.drop_succ_cons, List.drop_zero, List.drop_nil, List.nil_append, List.cons_append, List.append_nil, Nat.zero_add, Nat.reduceAdd, List.map_cons, List.map_nil, List.set_cons_zero, List.set_cons_succ]
          refine AW.seq ?_
          refine AW.seq ?_
          refine AW.region ?_
          refine AL.rp rfl rfl (rp_move rfl rfl) ?_
          (refine AL.rp rfl rfl (rp_eqlF rfl rfl rfl (by first | assumption | omega | (dsimp only; omega))) ?_)
          refine AL.nil ?_
          try simp only [thenS, S.put, List.nil_append, List.cons_append]
          refine AW.condF rfl ?_
          refine AW.skip ?_
          try simp only [thenS, List.nil_append, List.cons_append]
          refine AW.seq ?_
          refine AW.seq ?_
          refine AW.region ?_
          refine AL.rp rfl rfl (rp_move rfl rfl) ?_
          refine AL.rp rfl rfl (rp_index_map (k := 0) Tryz.underlying33 inf9 rfl rfl rfl (by omega) (by assumption)) ?_
          refine AL.rd rfl rfl (rd_load_ad Tryz.underlying9 rfl rfl rfl rfl) ?_
          refine AL.rp rfl rfl (rp_eqlsF rfl rfl rfl (by assumption)) ?_
          refine AL.rp rfl rfl (rp_move rfl rfl) ?_
          refine AL.noV rfl rfl rfl rfl ?_
          refine AL.noV rfl rfl rfl rfl ?_
          refine AL.noV rfl rfl rfl rfl ?_
          refine AL.rp rfl rfl (rp_pick rfl rfl rfl) ?_
          refine AL.nil ?_
          try simp only [thenS, S.put, List.nil_append, List.cons_append]
          refine AW.condF rfl ?_
          refine AW.skip ?_
          try simp only [thenS, List.nil_append, List.cons_append]
          refine AW.seq ?_
          refine AW.seq ?_
          refine AW.region ?_
          refine AL.rp rfl rfl (rp_move rfl rfl) ?_
          refine AL.rp rfl rfl (rp_index_map (k := 0) Tryz.underlying33 inf9 rfl rfl rfl (by omega) (by assumption)) ?_
          refine AL.rd rfl rfl (rd_load_ad Tryz.underlying9 rfl rfl rfl rfl) ?_
          refine AL.rp rfl rfl (rp_neqsF rfl rfl rfl (by assumption)) ?_
          refine AL.rp rfl rfl (rp_move rfl rfl) ?_
          refine AL.rpy rfl rfl rfl (rp_move rfl rfl) ?_
          refine AL.rpy rfl rfl rfl (rp_len_map Tryz.underlying33 rfl rfl (by assumption)) ?_
          (refine AL.rpy rfl rfl rfl (rp_neqT rfl rfl rfl (by first | assumption | omega | (dsimp only; omega))) ?_)
          refine AL.rp rfl rfl (rp_pick rfl rfl rfl) ?_
          refine AL.rp rfl rfl (rp_move rfl rfl) ?_
          refine AL.noV rfl rfl rfl rfl ?_
          refine AL.noV rfl rfl rfl rfl ?_
          refine AL.noV rfl rfl rfl rfl ?_
          refine AL.noV rfl rfl rfl rfl ?_
          refine AL.rp rfl rfl (rp_pick rfl rfl rfl) ?_
          refine AL.nil ?_
          try simp only [thenS, S.put, List.nil_append, List.cons_append]
          refine AW.condT rfl ?_
          refine AW.seq ?_
          refine AW.region ?_
          refine AL.rp rfl rfl (rp_build (vs := []) (zs := [.d (.p (.int .i64 0)), .d (.p (.slice none 0 0))]) pl24 inf24 rfl rfl rfl rfl) ?_
          refine AL.st rfl (st_store_any inf24 rfl rfl rfl rfl rfl rfl rfl rfl (by first | decide | (simp; done) | (simp; omega)) rfl) ?_
          refine AL.rp rfl rfl (rp_assign rfl rfl) ?_
          refine AL.nil ?_
          try simp only [thenS, S.put, S.newObj, setL, V.cs, List.length_cons, List.length_nil, List.take_succ_cons, List.take_zero, List.drop_succ_cons, List.drop_zero, List.drop_nil, List.nil_append, List.cons_append, List.append_nil, Nat.zero_add, Nat.reduceAdd, List.map_cons, List.map_nil, List.set_cons_zero, List.set_cons_succ]
          refine AW.ret ?_
          exact ⟨[_, _], ⟨⟨2, 0, _, _, rfl, rfl, rfl, Tryz.underlying24, .inr ⟨rfl, _, _, _, _, inf24, rfl, rfl, rfl⟩⟩, rfl, trivial⟩, .inl ⟨by decide, rfl⟩, by simp [tupOf, V.pure, V.has, V.hasL]⟩
        ·have hcA : (bs p0).data.toList ≠ (⟨#[97, 114, 99]⟩ : ByteArray).data.toList := by rw [bs_list]; exact hpA
         refine AW.seq ?_
         refine AW.seq ?_
         refine AW.region ?_
         refine AL.rp rfl rfl (rp_move rfl rfl) ?_
         refine AL.rp rfl rfl (rp_move rfl rfl) ?_
         refine AL.rp rfl rfl (rp_len_map Tryz.underlying33 rfl rfl (by assumption)) ?_
         (refine AL.rp rfl rfl (rp_lssT rfl rfl rfl (by first | assumption | omega | (dsimp only; omega))) ?_)
         refine AL.nil ?_
         try simp only [thenS, S.put, List.nil_append, List.cons_append]
         refine AW.condT rfl ?_
         refine AW.skip ?_
         try simp only [thenS, List.nil_append, List.cons_append]
         refine AW.seq ?_
         refine AW.block ?_
         refine AW.seq ?_
         refine AW.region ?_
         refine AL.rp rfl rfl (rp_move rfl rfl) ?_
         refine AL.rp rfl rfl (rp_move rfl rfl) ?_
         refine AL.rp rfl rfl (rp_index_map (k := i) Tryz.underlying33 inf9 rfl rfl rfl (by omega) (by assumption)) ?_
         refine AL.rd rfl rfl (rd_load_ad Tryz.underlying9 rfl rfl rfl rfl) ?_
         refine AL.call (post := ?pc42) rfl (sm_call (args := [_]) ?hc42 ⟨Tryz.func10, rfl, rfl, rfl, rfl⟩ rfl rfl rfl rfl) ?_
         case hc42 => exact hpx
         rintro _ rfl -
         try dsimp only
         refine AL.rp rfl rfl (rp_assign rfl rfl) ?_
         refine AL.nil ?_
         try simp only [thenS, S.put, S.newObj, setL, V.cs, List.length_cons, List.length_nil, List.take_succ_cons, List.take_zero, List.drop_succ_cons, List.drop_zero, List.drop_nil, List.nil_append, List.cons_append, List.append_nil, Nat.zero_add, Nat.reduceAdd, List.map_cons, List.map_nil, List.set_cons_zero, List.set_cons_succ]
         refine AW.seq ?_
         refine AW.seq ?_
         refine AW.region ?_
         refine AL.rp rfl rfl (rp_move rfl rfl) ?_
         (refine AL.rp rfl rfl (rp_eqlF rfl rfl rfl (by first | assumption | omega | (dsimp only; omega))) ?_)
         refine AL.nil ?_
         try simp only [thenS, S.put, List.nil_append, List.cons_append]
         refine AW.condF rfl ?_
         refine AW.skip ?_
         try simp only [thenS, List.nil_append, List.cons_append]
         refine AW.seq ?_
         refine AW.seq ?_
         refine AW.region ?_
         refine AL.rp rfl rfl (rp_move rfl rfl) ?_
         refine AL.rp rfl rfl (rp_index_map (k := 0) Tryz.underlying33 inf9 rfl rfl rfl (by omega) (by assumption)) ?_
         refine AL.rd rfl rfl (rd_load_ad Tryz.underlying9 rfl rfl rfl rfl) ?_
         refine AL.rp rfl rfl (rp_eqlsF rfl rfl rfl (by assumption)) ?_
         refine AL.rp rfl rfl (rp_move rfl rfl) ?_
         refine AL.noV rfl rfl rfl rfl ?_
         refine AL.noV rfl rfl rfl rfl ?_
         refine AL.noV rfl rfl rfl rfl ?_
         refine AL.rp rfl rfl (rp_pick rfl rfl rfl) ?_
         refine AL.nil ?_
         try simp only [thenS, S.put, List.nil_append, List.cons_append]
         refine AW.condF rfl ?_
         refine AW.skip ?_
         try simp only [thenS, List.nil_append, List.cons_append]
         refine AW.seq ?_
         refine AW.seq ?_
         refine AW.region ?_
         refine AL.rp rfl rfl (rp_move rfl rfl) ?_
         refine AL.rp rfl rfl (rp_index_map (k := 0) Tryz.underlying33 inf9 rfl rfl rfl (by omega) (by assumption)) ?_
         refine AL.rd rfl rfl (rd_load_ad Tryz.underlying9 rfl rfl rfl rfl) ?_
         refine AL.rp rfl rfl (rp_neqsT rfl rfl rfl (by assumption)) ?_
         refine AL.rp rfl rfl (rp_move rfl rfl) ?_
         refine AL.noV rfl rfl rfl rfl ?_
         refine AL.noV rfl rfl rfl rfl ?_
         refine AL.noV rfl rfl rfl rfl ?_
         refine AL.rp rfl rfl (rp_pick rfl rfl rfl) ?_
         refine AL.rp rfl rfl (rp_move rfl rfl) ?_
         refine AL.noV rfl rfl rfl rfl ?_
         refine AL.noV rfl rfl rfl rfl ?_
         refine AL.noV rfl rfl rfl rfl ?_
         refine AL.noV rfl rfl rfl rfl ?_
         refine AL.rp rfl rfl (rp_pick rfl rfl rfl) ?_
         refine AL.nil ?_
         try simp only [thenS, S.put, List.nil_append, List.cons_append]
         refine AW.condT rfl ?_
         refine AW.seq ?_
         refine AW.region ?_
         refine AL.rp rfl rfl (rp_build (vs := []) (zs := [.d (.p (.int .i64 0)), .d (.p (.slice none 0 0))]) pl24 inf24 rfl rfl rfl rfl) ?_
         refine AL.st rfl (st_store_any inf24 rfl rfl rfl rfl rfl rfl rfl rfl (by first | decide | (simp; done) | (simp; omega)) rfl) ?_
         refine AL.rp rfl rfl (rp_assign rfl rfl) ?_
         refine AL.nil ?_
         try simp only [thenS, S.put, S.newObj, setL, V.cs, List.length_cons, List.length_nil, List.take_succ_cons, List.take_zero, List.drop_succ_cons, List.drop_zero, List.drop_nil, List.nil_append, List.cons_append, List.append_nil, Nat.zero_add, Nat.reduceAdd, List.map_cons, List.map_nil, List.set_cons_zero, List.set_cons_succ]
         refine AW.ret ?_
         exact ⟨[_, _], ⟨⟨2, 0, _, _, rfl, rfl, rfl, Tryz.underlying24, .inr ⟨rfl, _, _, _, _, inf24, rfl, rfl, rfl⟩⟩, rfl, trivial⟩, .inl ⟨by decide, rfl⟩, by simp [tupOf, V.pure, V.has, V.hasL]⟩
   ·obtain rfl : i = n := by omega
    obtain ⟨rfl, rfl⟩ := hend _ hm
    have hflt := am_Fault ⟨st, sts⟩
    by_cases he : sts = []
    ·subst he
     obtain rfl : z = true := hz
     refine AW.freezeH 6 1 32 [] rfl rfl rfl (by decide) rfl rfl rfl (by omega) (by intro a b c d h; simp at h) ?_
     refine AW.less (s' := ⟨170, [(2, .ref 2 0), (4, .d (strsD L)), (6, .ref 6 0), (7, .i i)], [(2, ⟨24, [.i 0, .nil], false, 0⟩), (6, ⟨24, [.i st, .d (stsD [])], false, 0⟩)], []⟩) (Less.of rfl (by repeat (first | exact trivial | refine ⟨⟨_, rfl, Wk.refl _⟩, ?_⟩ | refine ⟨⟨_, rfl, Wk.nil _ _⟩, ?_⟩ | refine ⟨⟨_, rfl, Wk.junk _⟩, ?_⟩)) (by repeat (first | exact trivial | refine ⟨rfl, ?_⟩ | exact LH.fam | refine LH.skip (by decide) ?_)) rfl) ?_
     by_cases h0 : machE ⟨st, []⟩ = 0
     ·rw [if_pos h0]
      rw [h0] at hflt
      refine AW.seq ?_
      refine AW.seq ?_
      refine AW.region ?_
      refine AL.rp rfl rfl (rp_move rfl rfl) ?_
      refine AL.rp rfl rfl (rp_move rfl rfl) ?_
      refine AL.rp rfl rfl (rp_len_map Tryz.underlying33 rfl rfl (by assumption)) ?_
      (refine AL.rp rfl rfl (rp_lssF rfl rfl rfl (by first | assumption | omega | (dsimp only; omega))) ?_)
      refine AL.nil ?_
      try simp only [thenS, S.put, List.nil_append, List.cons_append]
      refine AW.condF rfl ?_
      refine AW.exit ?_
      try simp only [thenS, inBlockS, ↓reduceIte, Nat.reduceEqDiff, List.nil_append, List.cons_append]
      refine AW.seq ?_
      refine AW.seq ?_
      refine AW.region ?_
      refine AL.rd rfl rfl (rd_loads_ref Tryz.underlying24 rfl inf24 rfl rfl rfl rfl rfl rfl) ?_
      refine AL.call (post := ?pc43) rfl (sm_call (args := [_]) ?hc43 ⟨Tryz.func13, rfl, rfl, rfl, rfl⟩ rfl rfl rfl rfl) ?_
      case hc43 => exact hflt
      rintro _ rfl -
      try dsimp only
      (refine AL.rp rfl rfl (rp_neqF rfl rfl rfl (by first | assumption | omega | (dsimp only; omega))) ?_)
      refine AL.nil ?_
      try simp only [thenS, S.put, S.newObj, setL, V.cs, List.length_cons, List.length_nil, List.take_succ_cons, List.take_zero, List.drop_succ_cons, List.drop_zero, List.drop_nil, List.nil_append, List.cons_append, List.append_nil, Nat.zero_add, Nat.reduceAdd, List.map_cons, List.map_nil, List.set_cons_zero, List.set_cons_succ]
      refine AW.condF rfl ?_
      refine AW.skip ?_
      try simp only [thenS, List.nil_append, List.cons_append]
      refine AW.seq ?_
      refine AW.region ?_
      refine AL.rd rfl rfl (rd_loads_ref Tryz.underlying24 rfl inf24 rfl rfl rfl rfl rfl rfl) ?_
      refine AL.st rfl (st_store_any inf24 rfl rfl rfl rfl rfl rfl rfl rfl (by first | decide | (simp; done) | (simp; omega)) rfl) ?_
      refine AL.rp rfl rfl (rp_assign rfl rfl) ?_
      refine AL.nil ?_
      try simp only [thenS, S.put, S.newObj, setL, V.cs, List.length_cons, List.length_nil, List.take_succ_cons, List.take_zero, List.drop_succ_cons, List.drop_zero, List.drop_nil, List.nil_append, List.cons_append, List.append_nil, Nat.zero_add, Nat.reduceAdd, List.map_cons, List.map_nil, List.set_cons_zero, List.set_cons_succ]
      refine AW.ret ?_
      exact ⟨[_, _], ⟨⟨2, 0, _, _, rfl, rfl, rfl, Tryz.underlying24, .inr ⟨rfl, _, _, _, _, inf24, rfl, rfl, rfl⟩⟩, rfl, trivial⟩, .inr ⟨rfl, rfl⟩, by simp [tupOf, V.pure, V.has, V.hasL, mV]⟩
     ·rw [if_neg h0]
      obtain ⟨e, he⟩ : ∃ e, machE ⟨st, []⟩ = e := ⟨_, rfl⟩
      rw [he] at hflt h0
      refine AW.seq ?_
      refine AW.seq ?_
      refine AW.region ?_
      refine AL.rp rfl rfl (rp_move rfl rfl) ?_
      refine AL.rp rfl rfl (rp_move rfl rfl) ?_
      refine AL.rp rfl rfl (rp_len_map Tryz.underlying33 rfl rfl (by assumption)) ?_
      (refine AL.rp rfl rfl (rp_lssF rfl rfl rfl (by first | assumption | omega | (dsimp only; omega))) ?_)
      refine AL.nil ?_
      try simp only [thenS, S.put, List.nil_append, List.cons_append]
      refine AW.condF rfl ?_
      refine AW.exit ?_
      try simp only [thenS, inBlockS, ↓reduceIte, Nat.reduceEqDiff, List.nil_append, List.cons_append]
      refine AW.seq ?_
      refine AW.seq ?_
      refine AW.region ?_
      refine AL.rd rfl rfl (rd_loads_ref Tryz.underlying24 rfl inf24 rfl rfl rfl rfl rfl rfl) ?_
      refine AL.call (post := ?pc44) rfl (sm_call (args := [_]) ?hc44 ⟨Tryz.func13, rfl, rfl, rfl, rfl⟩ rfl rfl rfl rfl) ?_
      case hc44 => exact hflt
      rintro _ rfl -
      try dsimp only
      (refine AL.rp rfl rfl (rp_neqT rfl rfl rfl (by first | assumption | omega | (dsimp only; omega))) ?_)
      refine AL.nil ?_
      try simp only [thenS, S.put, S.newObj, setL, V.cs, List.length_cons, List.length_nil, List.take_succ_cons, List.take_zero, List.drop_succ_cons, List.drop_zero, List.drop_nil, List.nil_append, List.cons_append, List.append_nil, Nat.zero_add, Nat.reduceAdd, List.map_cons, List.map_nil, List.set_cons_zero, List.set_cons_succ]
      refine AW.condT rfl ?_
      refine AW.seq ?_
      refine AW.region ?_
      refine AL.rp rfl rfl (rp_build (vs := []) (zs := [.d (.p (.int .i64 0)), .d (.p (.slice none 0 0))]) pl24 inf24 rfl rfl rfl rfl) ?_
      refine AL.st rfl (st_store_any inf24 rfl rfl rfl rfl rfl rfl rfl rfl (by first | decide | (simp; done) | (simp; omega)) rfl) ?_
      refine AL.rp rfl rfl (rp_assign rfl rfl) ?_
      refine AL.nil ?_
      try simp only [thenS, S.put, S.newObj, setL, V.cs, List.length_cons, List.length_nil, List.take_succ_cons, List.take_zero, List.drop_succ_cons, List.drop_zero, List.drop_nil, List.nil_append, List.cons_append, List.append_nil, Nat.zero_add, Nat.reduceAdd, List.map_cons, List.map_nil, List.set_cons_zero, List.set_cons_succ]
      refine AW.ret ?_
      exact ⟨[_, _], ⟨⟨2, 0, _, _, rfl, rfl, rfl, Tryz.underlying24, .inr ⟨rfl, _, _, _, _, inf24, rfl, rfl, rfl⟩⟩, rfl, trivial⟩, .inl ⟨by decide, rfl⟩, by simp [tupOf, V.pure, V.has, V.hasL]⟩
    ·obtain rfl : z = false := by rw [hz]; cases sts with | nil => exact absurd rfl he | cons => rfl
     refine AW.famFreeze (F := FS) (m := 1) (base := 1000) (L := sts) [_, _, _] 901 rfl rfl rfl rfl (fun _ => rfl) (by intro x l hl; simp [FS] at hl; obtain ⟨_, _, rfl⟩ := hl; rfl) ?_ rfl (by simp [V.hasL, V.has]; intro r hr; omega) rfl rfl ?_
     ·intro s hs
      have := hsz.2 s hs
      simp [FS]; omega
     refine AW.freezeH 6 1 32 (sts.map FS.data) rfl rfl rfl (by decide) rfl rfl (by rw [List.length_map]) (by omega) (rowsF (sz := 2) (fun _ => rfl) rfl) ?_
     refine AW.less (s' := ⟨170, [(2, .ref 2 0), (4, .d (strsD L)), (6, .ref 6 0), (7, .i i)], [(2, ⟨24, [.i 0, .nil], false, 0⟩), (6, ⟨24, [.i st, .d (stsD sts)], false, 0⟩)], []⟩) (Less.of rfl (by repeat (first | exact trivial | refine ⟨⟨_, rfl, Wk.refl _⟩, ?_⟩ | refine ⟨⟨_, rfl, Wk.nil _ _⟩, ?_⟩ | refine ⟨⟨_, rfl, Wk.junk _⟩, ?_⟩)) (by repeat (first | exact trivial | refine ⟨rfl, ?_⟩ | exact LH.fam | refine LH.skip (by decide) ?_)) rfl) ?_
     by_cases h0 : machE ⟨st, sts⟩ = 0
     ·rw [if_pos h0]
      rw [h0] at hflt
      refine AW.seq ?_
      refine AW.seq ?_
      refine AW.region ?_
      refine AL.rp rfl rfl (rp_move rfl rfl) ?_
      refine AL.rp rfl rfl (rp_move rfl rfl) ?_
      refine AL.rp rfl rfl (rp_len_map Tryz.underlying33 rfl rfl (by assumption)) ?_
      (refine AL.rp rfl rfl (rp_lssF rfl rfl rfl (by first | assumption | omega | (dsimp only; omega))) ?_)
      refine AL.nil ?_
      try simp only [thenS, S.put, List.nil_append, List.cons_append]
      refine AW.condF rfl ?_
      refine AW.exit ?_
      try simp only [thenS, inBlockS, ↓reduceIte, Nat.reduceEqDiff, List.nil_append, List.cons_append]
      refine AW.seq ?_
      refine AW.seq ?_
      refine AW.region ?_
      refine AL.rd rfl rfl (rd_loads_ref Tryz.underlying24 rfl inf24 rfl rfl rfl rfl rfl rfl) ?_
      refine AL.call (post := ?pc45) rfl (sm_call (args := [_]) ?hc45 ⟨Tryz.func13, rfl, rfl, rfl, rfl⟩ rfl rfl rfl rfl) ?_
      case hc45 => exact hflt
      rintro _ rfl -
      try dsimp only
      (refine AL.rp rfl rfl (rp_neqF rfl rfl rfl (by first | assumption | omega | (dsimp only; omega))) ?_)
      refine AL.nil ?_
      try simp only [thenS, S.put, S.newObj, setL, V.cs, List.length_cons, List.length_nil, List.take_succ_cons, List.take_zero, List.drop_succ_cons, List.drop_zero, List.drop_nil, List.nil_append, List.cons_append, List.append_nil, Nat.zero_add, Nat.reduceAdd, List.map_cons, List.map_nil, List.set_cons_zero, List.set_cons_succ]
      refine AW.condF rfl ?_
      refine AW.skip ?_
      try simp only [thenS, List.nil_append, List.cons_append]
      refine AW.seq ?_
      refine AW.region ?_
      refine AL.rd rfl rfl (rd_loads_ref Tryz.underlying24 rfl inf24 rfl rfl rfl rfl rfl rfl) ?_
      refine AL.st rfl (st_store_any inf24 rfl rfl rfl rfl rfl rfl rfl rfl (by first | decide | (simp; done) | (simp; omega)) rfl) ?_
      refine AL.rp rfl rfl (rp_assign rfl rfl) ?_
      refine AL.nil ?_
      try simp only [thenS, S.put, S.newObj, setL, V.cs, List.length_cons, List.length_nil, List.take_succ_cons, List.take_zero, List.drop_succ_cons, List.drop_zero, List.drop_nil, List.nil_append, List.cons_append, List.append_nil, Nat.zero_add, Nat.reduceAdd, List.map_cons, List.map_nil, List.set_cons_zero, List.set_cons_succ]
      refine AW.ret ?_
      exact ⟨[_, _], ⟨⟨2, 0, _, _, rfl, rfl, rfl, Tryz.underlying24, .inr ⟨rfl, _, _, _, _, inf24, rfl, rfl, rfl⟩⟩, rfl, trivial⟩, .inr ⟨rfl, rfl⟩, by simp [tupOf, V.pure, V.has, V.hasL, mV]⟩
     ·rw [if_neg h0]
      obtain ⟨e, he⟩ : ∃ e, machE ⟨st, sts⟩ = e := ⟨_, rfl⟩
      rw [he] at hflt h0
      refine AW.seq ?_
      refine AW.seq ?_
      refine AW.region ?_
      refine AL.rp rfl rfl (rp_move rfl rfl) ?_
      refine AL.rp rfl rfl (rp_move rfl rfl) ?_
      refine AL.rp rfl rfl (rp_len_map Tryz.underlying33 rfl rfl (by assumption)) ?_
      (refine AL.rp rfl rfl (rp_lssF rfl rfl rfl (by first | assumption | omega | (dsimp only; omega))) ?_)
      refine AL.nil ?_
      try simp only [thenS, S.put, List.nil_append, List.cons_append]
      refine AW.condF rfl ?_
      refine AW.exit ?_
      try simp only [thenS, inBlockS, ↓reduceIte, Nat.reduceEqDiff, List.nil_append, List.cons_append]
      refine AW.seq ?_
      refine AW.seq ?_
      refine AW.region ?_
      refine AL.rd rfl rfl (rd_loads_ref Tryz.underlying24 rfl inf24 rfl rfl rfl rfl rfl rfl) ?_
      refine AL.call (post := ?pc46) rfl (sm_call (args := [_]) ?hc46 ⟨Tryz.func13, rfl, rfl, rfl, rfl⟩ rfl rfl rfl rfl) ?_
      case hc46 => exact hflt
      rintro _ rfl -
      try dsimp only
      (refine AL.rp rfl rfl (rp_neqT rfl rfl rfl (by first | assumption | omega | (dsimp only; omega))) ?_)
      refine AL.nil ?_
      try simp only [thenS, S.put, S.newObj, setL, V.cs, List.length_cons, List.length_nil, List.take_succ_cons, List.take_zero, List.drop_succ_cons, List.drop_zero, List.drop_nil, List.nil_append, List.cons_append, List.append_nil, Nat.zero_add, Nat.reduceAdd, List.map_cons, List.map_nil, List.set_cons_zero, List.set_cons_succ]
      refine AW.condT rfl ?_
      refine AW.seq ?_
      refine AW.region ?_
      refine AL.rp rfl rfl (rp_build (vs := []) (zs := [.d (.p (.int .i64 0)), .d (.p (.slice none 0 0))]) pl24 inf24 rfl rfl rfl rfl) ?_
      refine AL.st rfl (st_store_any inf24 rfl rfl rfl rfl rfl rfl rfl rfl (by first | decide | (simp; done) | (simp; omega)) rfl) ?_
      refine AL.rp rfl rfl (rp_assign rfl rfl) ?_
      refine AL.nil ?_
      try simp only [thenS, S.put, S.newObj, setL, V.cs, List.length_cons, List.length_nil, List.take_succ_cons, List.take_zero, List.drop_succ_cons, List.drop_zero, List.drop_nil, List.nil_append, List.cons_append, List.append_nil, Nat.zero_add, Nat.reduceAdd, List.map_cons, List.map_nil, List.set_cons_zero, List.set_cons_succ]
      refine AW.ret ?_
      exact ⟨[_, _], ⟨⟨2, 0, _, _, rfl, rfl, rfl, Tryz.underlying24, .inr ⟨rfl, _, _, _, _, inf24, rfl, rfl, rfl⟩⟩, rfl, trivial⟩, .inl ⟨by decide, rfl⟩, by simp [tupOf, V.pure, V.has, V.hasL]⟩
end Go.Proofs.YtkikceoccmoanaaGreatDoor
