/- Part 11 of what the law EmptiesRemoves rests on. -/
import Derived.Test.YthlcginebeapdaaPkEm1
import Derived.Test.YthlcginebeapdaaPkEm2
import Derived.Test.YthlcginebeapdaaPkEm3
import Derived.Test.YthlcginebeapdaaPkEm4
import Derived.Test.YthlcginebeapdaaPkEm5
import Derived.Test.YthlcginebeapdaaPkEm6
import Derived.Test.YthlcginebeapdaaPkEm7
import Derived.Test.YthlcginebeapdaaPkEm8
import Derived.Test.YthlcginebeapdaaPkEm9
import Derived.Test.YthlcginebeapdaaPkEm10
namespace Go.Proofs.Ythlcginebeapdaa
open Go.RowKit
set_option linter.unusedSimpArgs false
set_option linter.unusedVariables false
set_option maxRecDepth 100000

def tldE (x : Nat) : Int := if x ≠ big ∧ 1000000000 < x then 4 else 0
theorem am_ToldE (x : Nat) (f e : Int) (hf : tldF x = f) (he : tldE x = e) (hx : x ≤ big) : Fn Try.prog 45 [.i (x : Nat)] (fun v => v = .tup [.i f, .i e]) := by
 have hbig := big_eq
 unfold tldF at hf
 unfold tldE at he
 by_cases h1 : x = big
 ·rw [if_pos h1] at hf
  rw [if_neg (by simp [h1])] at he
  subst hf he
  refine Fn.intro (n := 9) ⟨Try.func45, rfl, rfl, rfl, rfl⟩ (by simp [V.pure, V.has, V.hasL]) (by simp) fun w0 out => ?_
  refine AW.seq ?_
  refine AW.region ?_
  refine AL.rp rfl rfl (rp_assign rfl rfl) ?_
  refine AL.rp rfl rfl (rp_assign rfl rfl) ?_
  refine AL.nil ?_
  try simp only [thenS, S.put, enum, List.nil_append, List.cons_append, List.append_nil, Nat.zero_add, Nat.reduceAdd]
  refine AW.seq ?_
  refine AW.seq ?_
  refine AW.region ?_
  refine AL.rp rfl rfl (rp_move rfl rfl) ?_
  (refine AL.rp rfl rfl (rp_eqlT rfl rfl rfl (by first | assumption | omega | (dsimp only; omega))) ?_)
  refine AL.nil ?_
  try simp only [thenS, S.put]
  refine AW.condT rfl ?_
  refine AW.seq ?_
  refine AW.region ?_
  refine AL.rp rfl rfl (rp_assign rfl rfl) ?_
  refine AL.rp rfl rfl (rp_assign rfl rfl) ?_
  refine AL.nil ?_
  try simp only [thenS, S.put]
  refine AW.ret ?_
  exact ⟨[_, _], ⟨rfl, rfl, trivial⟩, rfl, by simp [tupOf, V.pure, V.has, V.hasL]⟩
 ·rw [if_neg h1] at hf
  by_cases h2 : 1000000000 < x
  ·rw [if_pos h2] at hf
   rw [if_pos ⟨h1, h2⟩] at he
   subst hf he
   refine Fn.intro (n := 9) ⟨Try.func45, rfl, rfl, rfl, rfl⟩ (by simp [V.pure, V.has, V.hasL]) (by simp) fun w0 out => ?_
   refine AW.seq ?_
   refine AW.region ?_
   refine AL.rp rfl rfl (rp_assign rfl rfl) ?_
   refine AL.rp rfl rfl (rp_assign rfl rfl) ?_
   refine AL.nil ?_
   try simp only [thenS, S.put, enum, List.nil_append, List.cons_append, List.append_nil, Nat.zero_add, Nat.reduceAdd]
   refine AW.seq ?_
   refine AW.seq ?_
   refine AW.region ?_
   refine AL.rp rfl rfl (rp_move rfl rfl) ?_
   (refine AL.rp rfl rfl (rp_eqlF rfl rfl rfl (by first | assumption | omega | (dsimp only; omega))) ?_)
   refine AL.nil ?_
   try simp only [thenS, S.put]
   refine AW.condF rfl ?_
   refine AW.skip ?_
   try simp only [thenS]
   refine AW.seq ?_
   refine AW.seq ?_
   refine AW.region ?_
   refine AL.rp rfl rfl (rp_move rfl rfl) ?_
   (refine AL.rp rfl rfl (rp_gtrT rfl rfl rfl (by first | assumption | omega | (dsimp only; omega))) ?_)
   refine AL.nil ?_
   try simp only [thenS, S.put]
   refine AW.condT rfl ?_
   refine AW.seq ?_
   refine AW.region ?_
   refine AL.rp rfl rfl (rp_assign rfl rfl) ?_
   refine AL.rp rfl rfl (rp_assign rfl rfl) ?_
   refine AL.nil ?_
   try simp only [thenS, S.put]
   refine AW.ret ?_
   exact ⟨[_, _], ⟨rfl, rfl, trivial⟩, rfl, by simp [tupOf, V.pure, V.has, V.hasL]⟩
  ·rw [if_neg h2] at hf
   rw [if_neg (by simp [h2])] at he
   subst hf he
   refine Fn.intro (n := 9) ⟨Try.func45, rfl, rfl, rfl, rfl⟩ (by simp [V.pure, V.has, V.hasL]) (by simp) fun w0 out => ?_
   refine AW.seq ?_
   refine AW.region ?_
   refine AL.rp rfl rfl (rp_assign rfl rfl) ?_
   refine AL.rp rfl rfl (rp_assign rfl rfl) ?_
   refine AL.nil ?_
   try simp only [thenS, S.put, enum, List.nil_append, List.cons_append, List.append_nil, Nat.zero_add, Nat.reduceAdd]
   refine AW.seq ?_
   refine AW.seq ?_
   refine AW.region ?_
   refine AL.rp rfl rfl (rp_move rfl rfl) ?_
   (refine AL.rp rfl rfl (rp_eqlF rfl rfl rfl (by first | assumption | omega | (dsimp only; omega))) ?_)
   refine AL.nil ?_
   try simp only [thenS, S.put]
   refine AW.condF rfl ?_
   refine AW.skip ?_
   try simp only [thenS]
   refine AW.seq ?_
   refine AW.seq ?_
   refine AW.region ?_
   refine AL.rp rfl rfl (rp_move rfl rfl) ?_
   (refine AL.rp rfl rfl (rp_gtrF rfl rfl rfl (by first | assumption | omega | (dsimp only; omega))) ?_)
   refine AL.nil ?_
   try simp only [thenS, S.put]
   refine AW.condF rfl ?_
   refine AW.skip ?_
   try simp only [thenS]
   refine AW.seq ?_
   refine AW.region ?_
   refine AL.rp rfl rfl (rp_move rfl rfl) ?_
   refine AL.rp rfl rfl (rp_assign rfl rfl) ?_
   refine AL.rp rfl rfl (rp_assign rfl rfl) ?_
   refine AL.nil ?_
   try simp only [thenS, S.put]
   refine AW.ret ?_
   exact ⟨[_, _], ⟨rfl, rfl, trivial⟩, rfl, by simp [tupOf, V.pure, V.has, V.hasL]⟩

set_option maxHeartbeats 4000000 in
theorem am_Removed0 (m : Mach) : Fn Try.prog 22 [mV m] (fun v => resP (emE m) (emR m) v) := by
 by_cases h0 : machE m = 0
 ·have hz := machE_zero h0
  have hbig := big_eq
  obtain ⟨e, he⟩ : ∃ e, emE m = e := ⟨_, rfl⟩
  obtain ⟨R, hR⟩ : ∃ R, emR m = R := ⟨_, rfl⟩
  have hE : e = if emV m.states m.states.length = true then 4 else if 400 < arcN (emL m.states) then 5 else 0 := by rw [← he]; unfold emE; rw [if_neg (by simp [h0])]
  have hRR : e = 0 → R = ⟨m.start, emL m.states⟩ := fun h => by rw [← hR]; unfold emR; rw [if_pos (he.trans h)]
  rw [he, hR]
  clear he hR
  refine Fn.mach m 0 rfl fun hb hal => ?_
  clear hal
  have hhop := am_hopR m h0
  obtain ⟨st, sts⟩ := m
  have hfault := Fn.eqi (am_Fault ⟨st, sts⟩) h0
  simp only at hz hE hRR hhop hb
  obtain ⟨n, hn⟩ : ∃ n, sts.length = n := ⟨_, rfl⟩
  obtain ⟨hz1, hz2, hz3, hz4⟩ := hz
  rw [hn] at hz1 hz3 hz4 hE hhop hb
  obtain ⟨X, hX⟩ : ∃ X, mt (hop sts) n = X := ⟨_, rfl⟩
  have hXg : ∀ q, q < n → X[q]? = some (bl (hop sts q) n) := fun q hq => by rw [← hX]; exact mt_get hq
  have hXl : X.length = n := by rw [← hX, mt_len]
  rw [hX] at hhop
  clear hX h0
  refine Fn.intro (n := 165) ⟨Try.func22, rfl, rfl, rfl, rfl⟩ (by simp [V.pure, V.has, V.hasL]) (by simp) fun w0 out => ?_
  refine AW.seq ?_
  refine AW.region ?_
  refine AL.sm rfl (sm_box 1 rfl rfl rfl rfl rfl) ?_
  refine AL.sm rfl (sm_alloc (l := [.d (.p (.int .i64 0)), .d (.p (.slice none 0 0))]) 2 inf24 rfl rfl rfl rfl) ?_
  refine AL.rp rfl rfl (rp_assign rfl rfl) ?_
  refine AL.nil ?_
  try simp only [thenS, S.put, S.newObj, setL, V.cs, List.length_cons, List.length_nil, List.take_succ_cons, List.take_zero, List.drop_succ_cons, List.drop_zero, List.drop_nil, List.nil_append, List.cons_append, List.append_nil, Nat.zero_add, Nat.reduceAdd, List.map_cons, List.map_nil, List.set_cons_zero, List.set_cons_succ, enum]
  refine AW.seq ?_
  refine AW.region ?_
  refine AL.rd rfl rfl (rd_loads_ref Try.underlying24 rfl inf24 rfl rfl rfl rfl rfl rfl) ?_
  refine AL.call (post := ?pc0) rfl (sm_call (args := [_]) ?hc0 ⟨Try.func11, rfl, rfl, rfl, rfl⟩ rfl rfl rfl rfl) ?_
  case hc0 => exact hfault
  rintro _ rfl -
  try dsimp only
  refine AL.rp rfl rfl (rp_assign rfl rfl) ?_
  refine AL.nil ?_
  try simp only [thenS, S.put, S.newObj, setL, V.cs, List.length_cons, List.length_nil, List.take_succ_cons, List.take_zero, List.drop_succ_cons, List.drop_zero, List.drop_nil, List.nil_append, List.cons_append, List.append_nil, Nat.zero_add, Nat.reduceAdd, List.map_cons, List.map_nil, List.set_cons_zero, List.set_cons_succ]
  refine AW.seq ?_
  refine AW.seq ?_
  refine AW.region ?_
  refine AL.rp rfl rfl (rp_move rfl rfl) ?_
  (refine AL.rp rfl rfl (rp_neqF rfl rfl rfl (by first | assumption | omega | (dsimp only; omega))) ?_)
  refine AL.nil ?_
  try simp only [thenS, S.put]
  refine AW.condF rfl ?_
  refine AW.skip ?_
  try simp only [thenS]
  refine AW.seq ?_
  refine AW.region ?_
  refine AL.rd rfl rfl (rd_loads_ref Try.underlying24 rfl inf24 rfl rfl rfl rfl rfl rfl) ?_
  refine AL.call (post := ?pc1) rfl (sm_call (args := [_]) ?hc1 ⟨Try.func41, rfl, rfl, rfl, rfl⟩ rfl rfl rfl rfl) ?_
  case hc1 => exact hhop
  rintro _ rfl -
  try dsimp only
  refine AL.rp rfl rfl (rp_assign rfl rfl) ?_
  refine AL.nil ?_
  try simp only [thenS, S.put, S.newObj, setL, V.cs, List.length_cons, List.length_nil, List.take_succ_cons, List.take_zero, List.drop_succ_cons, List.drop_zero, List.drop_nil, List.nil_append, List.cons_append, List.append_nil, Nat.zero_add, Nat.reduceAdd, List.map_cons, List.map_nil, List.set_cons_zero, List.set_cons_succ]
  refine AW.seq ?_
  refine AW.region ?_
  refine AL.rp rfl rfl (rp_field_ref Try.underlying24 rfl rfl rfl inf3 (by decide) rfl) ?_
  refine AL.rd rfl rfl (rd_load_ref Try.underlying3 rfl rfl rfl rfl rfl rfl) ?_
  refine AL.rp rfl rfl (rp_build (vs := [(0, _)]) (zs := [.d (.p (.int .i64 0)), .d (.p (.slice none 0 0))]) pl24 inf24 rfl rfl rfl rfl) ?_
  refine AL.sm rfl (sm_alloc (l := [.d (.p (.int .i64 0)), .d (.p (.slice none 0 0))]) 6 inf24 rfl rfl rfl rfl) ?_
  refine AL.st rfl (st_store_any inf24 rfl rfl rfl rfl rfl rfl rfl rfl (by first | decide | (simp; done) | (simp; omega)) rfl) ?_
  refine AL.nil ?_
  try simp only [thenS, S.put, S.newObj, setL, V.cs, List.length_cons, List.length_nil, List.take_succ_cons, List.take_zero, List.drop_succ_cons, List.drop_zero, List.drop_nil, List.nil_append, List.cons_append, List.append_nil, Nat.zero_add, Nat.reduceAdd, List.map_cons, List.map_nil, List.set_cons_zero, List.set_cons_succ]
  refine AW.seq ?_
  refine AW.adoptH 6 1 901 2 50 rfl rfl rfl (by simp [S.clean, V.has, V.hasL, V.cs, setL]) ?_
  refine AW.region ?_
  refine AL.rp rfl rfl (rp_assign rfl rfl) ?_
  refine AL.nil ?_
  try simp only [thenS, S.put]
  refine AW.seq ?_
  refine AW.seq ?_
  refine AW.region ?_
  refine AL.rp rfl rfl (rp_assign rfl rfl) ?_
  refine AL.nil ?_
  try simp only [thenS, S.put]
  refine AW.block ?_
  refine AW.loop (fun s' => ∃ (q : Nat) (P : List St) (O : Bool), q ≤ n ∧ P.length = q ∧ P = bl (fun q => ⟨tldF (emF sts q), emA sts q⟩) q ∧ O = emV sts q ∧ s' = ⟨165, [(1, .ref 1 0), (2, .ref 2 0), (5, .d (.sl 1 24 (X.map rowE))), (6, .ref 6 0), (7, .b O), (8, .i q)], [(1, ⟨24, [.i st, .d (stsD sts)], false, 0⟩), (2, ⟨24, [.i 0, .nil], false, 0⟩), (6, ⟨24, [.i st, .own 901 2 q (decide (q = 0))], false, 0⟩), (901, ⟨50, P.flatMap stV2, decide (q = 0), 2⟩)], []⟩) (fun s' => n - s'.nat 8) ⟨_, ?_, 0, [], false, by omega, rfl, rfl, rfl, rfl⟩ ?_
  ·exact (Less.of rfl (by repeat (first | exact trivial | refine ⟨⟨_, rfl, Wk.refl _⟩, ?_⟩ | refine ⟨⟨_, rfl, Wk.nil _ _⟩, ?_⟩ | refine ⟨⟨_, rfl, Wk.junk _⟩, ?_⟩)) (by repeat (first | exact trivial | refine ⟨rfl, ?_⟩)) rfl)
  rintro s' ⟨q, P, O, hq, hPl, hP, hO, rfl⟩
  have hflP : (P.flatMap stV2).length = q * 2 := by rw [flat_len (sz := 2) (fun _ => rfl), hPl]
  by_cases hlt : q < n
  ·have hXq := hXg q hlt
   obtain ⟨dF, hD⟩ : ∃ dF, hop sts q = dF := ⟨_, rfl⟩
   rw [hD] at hXq
   obtain ⟨row, hrow⟩ : ∃ row, bl dF n = row := ⟨_, rfl⟩
   have hrg : ∀ p, p < n → row[p]? = some (dF p) := fun p hp => by rw [← hrow]; exact bl_get hp
   have hrl : row.length = n := by rw [← hrow, bl_len]
   rw [hrow] at hXq
   have hDle : ∀ p, dF p ≤ big := fun p => by rw [← hD]; exact (dst_spec p).1
   have hF0 : emF sts q = finN dF sts n := by unfold emF; rw [hD, hn]
   have hA0 : emA sts q = inL (allA dF sts n) := by unfold emA; rw [hD, hn]
   have hO0 := emV_succ sts q
   unfold emO at hO0
   rw [← hO] at hO0
   clear hD hrow hE hRR
   refine AW.seq ?_
   refine AW.seq ?_
   refine AW.region ?_
   refine AL.rp rfl rfl (rp_move rfl rfl) ?_
   refine AL.rp rfl rfl (rp_field_ref Try.underlying24 rfl rfl rfl inf22 (by decide) rfl) ?_
   refine AL.rd rfl rfl (rd_load_ref Try.underlying22 rfl rfl rfl rfl rfl rfl) ?_
   refine AL.rp rfl rfl (rp_len_map Try.underlying22 rfl rfl (by assumption)) ?_
   (refine AL.rp rfl rfl (rp_lssT rfl rfl rfl (by first | assumption | omega | (dsimp only; omega))) ?_)
   refine AL.nil ?_
   try simp only [thenS, S.put]
   refine AW.condT rfl ?_
   refine AW.skip ?_
   try simp only [thenS]
   refine AW.seq ?_
   refine AW.block ?_
   refine AW.seq ?_
   refine AW.region ?_
   refine AL.rp rfl rfl (rp_assign rfl rfl) ?_
   refine AL.nil ?_
   try simp only [thenS, S.put]
   refine AW.seq ?_
   refine AW.region ?_
   refine AL.rp rfl rfl (rp_assign rfl rfl) ?_
   refine AL.nil ?_
   try simp only [thenS, S.put]
   refine AW.seq ?_
   refine AW.seq ?_
   refine AW.adopt 10 902 4 54 rfl (by simp [S.clean, V.has, V.hasL, V.cs, setL, hasL_flat]) ?_
   refine AW.region ?_
   refine AL.rp rfl rfl (rp_assign rfl rfl) ?_
   refine AL.nil ?_
   try simp only [thenS, S.put]
   refine AW.block ?_
   refine AW.loop (fun s' => ∃ (p : Nat) (A : List Ar) (ak F : Nat), p ≤ n ∧ F = finN dF sts p ∧ A = allA dF sts p ∧ A.length = ak ∧ s' = ⟨165, [(1, .ref 1 0), (2, .ref 2 0), (5, .d (.sl 1 24 (X.map rowE))), (6, .ref 6 0), (7, .b O), (8, .i q), (9, .i F), (10, .own 902 4 ak (decide (ak = 0))), (11, .i p)], [(1, ⟨24, [.i st, .d (stsD sts)], false, 0⟩), (2, ⟨24, [.i 0, .nil], false, 0⟩), (6, ⟨24, [.i st, .own 901 2 q (decide (q = 0))], false, 0⟩), (901, ⟨50, P.flatMap stV2, decide (q = 0), 2⟩), (902, ⟨54, A.flatMap arV2, decide (ak = 0), 4⟩)], []⟩) (fun s' => n - s'.nat 11) ⟨_, ?_, 0, [], 0, big, by omega, rfl, rfl, rfl, rfl⟩ ?_
   ·exact (Less.of rfl (by repeat (first | exact trivial | refine ⟨⟨_, rfl, Wk.refl _⟩, ?_⟩ | refine ⟨⟨_, rfl, Wk.nil _ _⟩, ?_⟩ | refine ⟨⟨_, rfl, Wk.junk _⟩, ?_⟩)) (by repeat (first | exact trivial | refine ⟨rfl, ?_⟩)) rfl)
   rintro s' ⟨p, A, ak, F, hp, hF, hA, hAl, rfl⟩
   by_cases hltp : p < n
   ·obtain ⟨x, hx⟩ := get_lt hn hltp
    have hrp := hrg p hltp
    by_cases hd : dF p = big
    ·rw [hd] at hrp
     have hF' := finN_none (D := dF) hx hd
     have hA' := allA_none (sts := sts) hd
     refine AW.seq ?_
     refine AW.seq ?_
     refine AW.region ?_
     refine AL.rp rfl rfl (rp_move rfl rfl) ?_
     refine AL.rp rfl rfl (rp_field_ref Try.underlying24 rfl rfl rfl inf22 (by decide) rfl) ?_
     refine AL.rd rfl rfl (rd_load_ref Try.underlying22 rfl rfl rfl rfl rfl rfl) ?_
     refine AL.rp rfl rfl (rp_len_map Try.underlying22 rfl rfl (by assumption)) ?_
     (refine AL.rp rfl rfl (rp_lssT rfl rfl rfl (by first | assumption | omega | (dsimp only; omega))) ?_)
     refine AL.nil ?_
     try simp only [thenS, S.put]
     refine AW.condT rfl ?_
     refine AW.skip ?_
     try simp only [thenS]
     refine AW.seq ?_
     refine AW.block ?_
     refine AW.seq ?_
     refine AW.seq ?_
     refine AW.region ?_
     refine AL.rp rfl rfl (rp_move rfl rfl) ?_
     refine AL.rp rfl rfl (rp_move rfl rfl) ?_
     refine AL.rp rfl rfl (rp_index_map Try.underlying85 inf82 rfl rfl rfl rfl (by assumption)) ?_
     refine AL.rd rfl rfl (rd_load_ad Try.underlying82 rfl rfl rfl rfl) ?_
     refine AL.rp rfl rfl (rp_move rfl rfl) ?_
     refine AL.rp rfl rfl (rp_index_map Try.underlying82 inf3 rfl rfl rfl rfl (by assumption)) ?_
     refine AL.rd rfl rfl (rd_load_ad Try.underlying3 rfl rfl rfl rfl) ?_
     (refine AL.rp rfl rfl (rp_eqlT rfl rfl rfl (by first | assumption | omega | (dsimp only; omega))) ?_)
     refine AL.nil ?_
     try simp only [thenS, S.put]
     refine AW.condT rfl ?_
     refine AW.exit ?_
     try simp only [thenS, inBlockS, ↓reduceIte, Nat.reduceEqDiff]
     refine AW.region ?_
     refine AL.rp rfl rfl (rp_move rfl rfl) ?_
     refine AL.rp rfl rfl (rp_add rfl rfl rfl (by first | omega | (dsimp only; omega))) ?_
     refine AL.rp rfl rfl (rp_assign rfl rfl) ?_
     refine AL.nil ?_
     try simp only [thenS, S.put]
     refine ⟨_, ?_, ⟨p + 1, A, ak, F, by omega, by rw [hF', hF], by rw [hA', hA], hAl, rfl⟩, ?_⟩
     ·exact (Less.of rfl (by repeat (first | exact trivial | refine ⟨⟨_, rfl, Wk.refl _⟩, ?_⟩ | refine ⟨⟨_, rfl, Wk.nil _ _⟩, ?_⟩ | refine ⟨⟨_, rfl, Wk.junk _⟩, ?_⟩)) (by repeat (first | exact trivial | refine ⟨rfl, ?_⟩)) rfl)
     ·simp [S.nat, fnd]; omega
    ·have hdl := hDle p
     have hx4 := hz4 x (List.mem_of_getElem? hx)
     have hallp := allA_400 (D := dF) (sts := sts) (k := p + 1) (by omega) hz2
     have hxl := arcs_le (List.mem_of_getElem? hx)
     obtain ⟨xf, xa⟩ := x
     simp only [finOk, decide_eq_true_eq] at hx4 hxl
     obtain ⟨⟨hf0, hf1⟩, hxa⟩ := hx4
     obtain ⟨f, rfl⟩ := Int.eq_ofNat_of_zero_le hf0
     have hlt2 := fun h1 h2 => finN_lt (D := dF) hx hd h1 h2
     have hge := fun h => finN_ge (D := dF) hx h
     have hinf := fun h => finN_inf (D := dF) hx h
     have hall := allA_some (D := dF) hx hd
     simp only [Int.toNat_natCast] at hlt2 hge hinf hall hf1
     obtain ⟨d, hdd⟩ : ∃ d, dF p = d := ⟨_, rfl⟩
     rw [hdd] at hrp hd hdl hlt2 hge hall
     obtain ⟨la, hla⟩ : ∃ la, xa.length = la := ⟨_, rfl⟩
     obtain ⟨F', hF'⟩ : ∃ F', finN dF sts (p + 1) = F' := ⟨_, rfl⟩
     rw [hF', ← hF] at hlt2 hge hinf
     have hFb : F ≤ big := by rw [hF]; exact finN_le _ _ _
     rw [hall] at hallp
     refine AW.seq ?_
     refine AW.seq ?_
     refine AW.region ?_
     refine AL.rp rfl rfl (rp_move rfl rfl) ?_
     refine AL.rp rfl rfl (rp_field_ref Try.underlying24 rfl rfl rfl inf22 (by decide) rfl) ?_
     refine AL.rd rfl rfl (rd_load_ref Try.underlying22 rfl rfl rfl rfl rfl rfl) ?_
     refine AL.rp rfl rfl (rp_len_map Try.underlying22 rfl rfl (by assumption)) ?_
     (refine AL.rp rfl rfl (rp_lssT rfl rfl rfl (by first | assumption | omega | (dsimp only; omega))) ?_)
     refine AL.nil ?_
     try simp only [thenS, S.put]
     refine AW.condT rfl ?_
     refine AW.skip ?_
     try simp only [thenS]
     refine AW.seq ?_
     refine AW.block ?_
     refine AW.seq ?_
     refine AW.seq ?_
     refine AW.region ?_
     refine AL.rp rfl rfl (rp_move rfl rfl) ?_
     refine AL.rp rfl rfl (rp_move rfl rfl) ?_
     refine AL.rp rfl rfl (rp_index_map Try.underlying85 inf82 rfl rfl rfl rfl (by assumption)) ?_
     refine AL.rd rfl rfl (rd_load_ad Try.underlying82 rfl rfl rfl rfl) ?_
     refine AL.rp rfl rfl (rp_move rfl rfl) ?_
     refine AL.rp rfl rfl (rp_index_map Try.underlying82 inf3 rfl rfl rfl rfl (by assumption)) ?_
     refine AL.rd rfl rfl (rd_load_ad Try.underlying3 rfl rfl rfl rfl) ?_
     (refine AL.rp rfl rfl (rp_eqlF rfl rfl rfl (by first | assumption | omega | (dsimp only; omega))) ?_)
     refine AL.nil ?_
     try simp only [thenS, S.put]
     refine AW.condF rfl ?_
     refine AW.skip ?_
     try simp only [thenS]
     refine AW.seq ?_
     refine AW.region ?_
     refine AL.rp rfl rfl (rp_field_ref Try.underlying24 rfl rfl rfl inf22 (by decide) rfl) ?_
     refine AL.rd rfl rfl (rd_load_ref Try.underlying22 rfl rfl rfl rfl rfl rfl) ?_
     refine AL.rp rfl rfl (rp_move rfl rfl) ?_
     refine AL.rp rfl rfl (rp_index_map Try.underlying22 inf50 rfl rfl rfl rfl (by assumption)) ?_
     refine AL.rd rfl rfl (rd_loads_ad Try.underlying50 rfl inf50 rfl rfl rfl rfl) ?_
     refine AL.sm rfl (sm_alloc (l := [.d (.p (.int .i64 0)), .d (.p (.slice none 0 0))]) 12 inf50 rfl (by simp [S.clean, S.put, S.newObj, S.forget, V.has, V.hasL, junkIf, setL, V.cs, hasL_i, hasL_d, hasL_b, hasL_s, hasL_n, hasL_rep, hasL_flat, hasL_append, -List.map_set]) rfl rfl) ?_
     refine AL.st rfl (st_store_any inf50 rfl rfl rfl rfl rfl rfl rfl rfl (by first | decide | (simp; done) | (simp; omega)) rfl) ?_
     refine AL.nil ?_
     try simp only [thenS, S.put, S.newObj, setL, V.cs, List.length_cons, List.length_nil, List.take_succ_cons, List.take_zero, List.drop_succ_cons, List.drop_zero, List.drop_nil, List.nil_append, List.cons_append, List.append_nil, Nat.zero_add, Nat.reduceAdd, List.map_cons, List.map_nil, List.set_cons_zero, List.set_cons_succ]
     refine AW.seqc (fun s' => s' = ⟨165, [(1, .ref 1 0), (2, .ref 2 0), (5, .d (.sl 1 24 (X.map rowE))), (6, .ref 6 0), (7, .b O), (8, .i q), (9, .i F'), (10, .own 902 4 ak (decide (ak = 0))), (11, .i p), (12, .ref 12 0)], [(1, ⟨24, [.i st, .d (stsD sts)], false, 0⟩), (2, ⟨24, [.i 0, .nil], false, 0⟩), (6, ⟨24, [.i st, .own 901 2 q (decide (q = 0))], false, 0⟩), (901, ⟨50, P.flatMap stV2, decide (q = 0), 2⟩), (902, ⟨54, A.flatMap arV2, decide (ak = 0), 4⟩), (12, ⟨50, [.i f, .d (arsD xa)], false, 0⟩)], []⟩) ?_ ?_
     ·clear hF hF'
      by_cases hfi : f = 1000000001
      ·have hFF : F' = F := hinf (by omega)
       rw [hFF]
       refine AW.seq ?_
       refine AW.draw [(0, true), (1, true), (2, true), (3, true), (4, true), (5, true), (6, true), (7, true), (8, true), (9, true), (10, true), (11, true), (12, true), (13, true), (14, true), (15, true), (16, true)] (fun i => !([] : List Nat).contains i) 17 (by kernel_rfl) (by kernel_rfl) rfl (by kernel_rfl) ?_
       refine AD1.rp rfl rfl rfl (fun _ _ h => h) (rp_field_ref Try.underlying50 rfl rfl rfl inf3 (by decide) rfl) ?_
       refine AD1.rd rfl rfl rfl (fun _ _ h => h) (rd_load_ref Try.underlying3 rfl rfl rfl rfl rfl rfl) ?_
       (refine AD1.rp rfl rfl rfl (fun _ _ h => h) (rp_neqF rfl rfl rfl (by first | assumption | omega | (dsimp only; omega))) ?_)
       refine AD1.rp rfl rfl rfl (fun _ _ h => h) (rp_move rfl rfl) ?_
       refine AD1.noV rfl rfl rfl rfl rfl (fun _ _ h => h) ?_
       refine AD1.noV rfl rfl rfl rfl rfl (fun _ _ h => h) ?_
       refine AD1.noV rfl rfl rfl rfl rfl (fun _ _ h => h) ?_
       refine AD1.noV rfl rfl rfl rfl rfl (fun _ _ h => h) ?_
       refine AD1.noV rfl rfl rfl rfl rfl (fun _ _ h => h) ?_
       refine AD1.noV rfl rfl rfl rfl rfl (fun _ _ h => h) ?_
       refine AD1.noV rfl rfl rfl rfl rfl (fun _ _ h => h) ?_
       refine AD1.noV rfl rfl rfl rfl rfl (fun _ _ h => h) ?_
       refine AD1.noV rfl rfl rfl rfl rfl (fun _ _ h => h) ?_
       refine AD1.noV rfl rfl rfl rfl rfl (fun _ _ h => h) ?_
       refine AD1.noV rfl rfl rfl rfl rfl (fun _ _ h => h) ?_
       refine AD1.noV rfl rfl rfl rfl rfl (fun _ _ h => h) ?_
       refine AD1.rp rfl rfl rfl (fun _ _ h => h) (rp_pick rfl rfl rfl) ?_
       refine AD1.nil ?_
       try simp only [thenS, S.put]
       refine AW.condF rfl ?_
       refine AW.skip ?_
       try simp only [thenS]
       refine ⟨_, ?_, rfl⟩
       exact (Less.of rfl (by repeat (first | exact trivial | refine ⟨⟨_, rfl, Wk.refl _⟩, ?_⟩ | refine ⟨⟨_, rfl, Wk.nil _ _⟩, ?_⟩ | refine ⟨⟨_, rfl, Wk.junk _⟩, ?_⟩)) (by repeat (first | exact trivial | refine ⟨rfl, ?_⟩)) rfl)
      ·by_cases hc : d + f < F
       ·have hFF : F' = d + f := hlt2 (by omega) hc
        rw [hFF, Int.natCast_add]
        refine AW.seq ?_
        refine AW.draw [(0, true), (1, true), (2, true), (3, true), (4, true), (5, true), (6, true), (7, true), (8, true), (9, true), (10, true), (11, true), (12, true), (13, true), (14, true), (15, true), (16, true)] (fun i => !([] : List Nat).contains i) 17 (by kernel_rfl) (by kernel_rfl) rfl (by kernel_rfl) ?_
        refine AD1.rp rfl rfl rfl (fun _ _ h => h) (rp_field_ref Try.underlying50 rfl rfl rfl inf3 (by decide) rfl) ?_
        refine AD1.rd rfl rfl rfl (fun _ _ h => h) (rd_load_ref Try.underlying3 rfl rfl rfl rfl rfl rfl) ?_
        (refine AD1.rp rfl rfl rfl (fun _ _ h => h) (rp_neqT rfl rfl rfl (by first | assumption | omega | (dsimp only; omega))) ?_)
        refine AD1.rp rfl rfl rfl (fun _ _ h => h) (rp_move rfl rfl) ?_
        refine AD1.rpy rfl rfl rfl rfl (fun _ _ h => h) (rp_move rfl rfl) ?_
        refine AD1.rpy rfl rfl rfl rfl (fun _ _ h => h) (rp_move rfl rfl) ?_
        refine AD1.rpy rfl rfl rfl rfl (fun _ _ h => h) (rp_index_map Try.underlying85 inf82 rfl rfl rfl rfl (by assumption)) ?_
        refine AD1.rdy rfl rfl rfl rfl (fun _ _ h => h) (rd_load_ad Try.underlying82 rfl rfl rfl rfl) ?_
        refine AD1.rpy rfl rfl rfl rfl (fun _ _ h => h) (rp_move rfl rfl) ?_
        refine AD1.rpy rfl rfl rfl rfl (fun _ _ h => h) (rp_index_map Try.underlying82 inf3 rfl rfl rfl rfl (by assumption)) ?_
        refine AD1.rdy rfl rfl rfl rfl (fun _ _ h => h) (rd_load_ad Try.underlying3 rfl rfl rfl rfl) ?_
        refine AD1.rpy rfl rfl rfl rfl (fun _ _ h => h) (rp_field_ref Try.underlying50 rfl rfl rfl inf3 (by decide) rfl) ?_
        refine AD1.rdy rfl rfl rfl rfl (fun _ _ h => h) (rd_load_ref Try.underlying3 rfl rfl rfl rfl rfl rfl) ?_
        (refine AD1.rpy rfl rfl rfl rfl (fun _ _ h => h) (rp_add rfl rfl rfl (by first | omega | (dsimp only; omega))) ?_)
        refine AD1.rpy rfl rfl rfl rfl (fun _ _ h => h) (rp_move rfl rfl) ?_
        (refine AD1.rpy rfl rfl rfl rfl (fun _ _ h => h) (rp_lssT rfl rfl rfl (by first | assumption | omega | (dsimp only; omega))) ?_)
        refine AD1.rp rfl rfl rfl (fun _ _ h => h) (rp_pick rfl rfl rfl) ?_
        refine AD1.nil ?_
        try simp only [thenS, S.put]
        refine AW.condT rfl ?_
        refine AW.draw [(0, true), (1, true), (2, true), (3, true), (4, true), (5, true), (6, true), (7, true), (8, true), (9, true), (10, true)] (fun i => !([] : List Nat).contains i) 11 (by kernel_rfl) (by kernel_rfl) rfl (by kernel_rfl) ?_
        refine AD1.rp rfl rfl rfl (fun _ _ h => h) (rp_move rfl rfl) ?_
        refine AD1.rp rfl rfl rfl (fun _ _ h => h) (rp_move rfl rfl) ?_
        refine AD1.rp rfl rfl rfl (fun _ _ h => h) (rp_index_map Try.underlying85 inf82 rfl rfl rfl rfl (by assumption)) ?_
        refine AD1.rd rfl rfl rfl (fun _ _ h => h) (rd_load_ad Try.underlying82 rfl rfl rfl rfl) ?_
        refine AD1.rp rfl rfl rfl (fun _ _ h => h) (rp_move rfl rfl) ?_
        refine AD1.rp rfl rfl rfl (fun _ _ h => h) (rp_index_map Try.underlying82 inf3 rfl rfl rfl rfl (by assumption)) ?_
        refine AD1.rd rfl rfl rfl (fun _ _ h => h) (rd_load_ad Try.underlying3 rfl rfl rfl rfl) ?_
        refine AD1.rp rfl rfl rfl (fun _ _ h => h) (rp_field_ref Try.underlying50 rfl rfl rfl inf3 (by decide) rfl) ?_
        refine AD1.rd rfl rfl rfl (fun _ _ h => h) (rd_load_ref Try.underlying3 rfl rfl rfl rfl rfl rfl) ?_
        refine AD1.rp rfl rfl rfl (fun _ _ h => h) (rp_add rfl rfl rfl (by first | omega | (dsimp only; omega))) ?_
        refine AD1.rp rfl rfl rfl (fun _ _ h => h) (rp_assign rfl rfl) ?_
        refine AD1.nil ?_
        try simp only [thenS, S.put]
        refine ⟨_, ?_, rfl⟩
        exact (Less.of rfl (by repeat (first | exact trivial | refine ⟨⟨_, rfl, Wk.refl _⟩, ?_⟩ | refine ⟨⟨_, rfl, Wk.nil _ _⟩, ?_⟩ | refine ⟨⟨_, rfl, Wk.junk _⟩, ?_⟩)) (by repeat (first | exact trivial | refine ⟨rfl, ?_⟩)) rfl)
       ·have hFF : F' = F := hge hc
        rw [hFF]
        refine AW.seq ?_
        refine AW.draw [(0, true), (1, true), (2, true), (3, true), (4, true), (5, true), (6, true), (7, true), (8, true), (9, true), (10, true), (11, true), (12, true), (13, true), (14, true), (15, true), (16, true)] (fun i => !([] : List Nat).contains i) 17 (by kernel_rfl) (by kernel_rfl) rfl (by kernel_rfl) ?_
        refine AD1.rp rfl rfl rfl (fun _ _ h => h) (rp_field_ref Try.underlying50 rfl rfl rfl inf3 (by decide) rfl) ?_
        refine AD1.rd rfl rfl rfl (fun _ _ h => h) (rd_load_ref Try.underlying3 rfl rfl rfl rfl rfl rfl) ?_
        (refine AD1.rp rfl rfl rfl (fun _ _ h => h) (rp_neqT rfl rfl rfl (by first | assumption | omega | (dsimp only; omega))) ?_)
        refine AD1.rp rfl rfl rfl (fun _ _ h => h) (rp_move rfl rfl) ?_
        refine AD1.rpy rfl rfl rfl rfl (fun _ _ h => h) (rp_move rfl rfl) ?_
        refine AD1.rpy rfl rfl rfl rfl (fun _ _ h => h) (rp_move rfl rfl) ?_
        refine AD1.rpy rfl rfl rfl rfl (fun _ _ h => h) (rp_index_map Try.underlying85 inf82 rfl rfl rfl rfl (by assumption)) ?_
        refine AD1.rdy rfl rfl rfl rfl (fun _ _ h => h) (rd_load_ad Try.underlying82 rfl rfl rfl rfl) ?_
        refine AD1.rpy rfl rfl rfl rfl (fun _ _ h => h) (rp_move rfl rfl) ?_
        refine AD1.rpy rfl rfl rfl rfl (fun _ _ h => h) (rp_index_map Try.underlying82 inf3 rfl rfl rfl rfl (by assumption)) ?_
        refine AD1.rdy rfl rfl rfl rfl (fun _ _ h => h) (rd_load_ad Try.underlying3 rfl rfl rfl rfl) ?_
        refine AD1.rpy rfl rfl rfl rfl (fun _ _ h => h) (rp_field_ref Try.underlying50 rfl rfl rfl inf3 (by decide) rfl) ?_
        refine AD1.rdy rfl rfl rfl rfl (fun _ _ h => h) (rd_load_ref Try.underlying3 rfl rfl rfl rfl rfl rfl) ?_
        (refine AD1.rpy rfl rfl rfl rfl (fun _ _ h => h) (rp_add rfl rfl rfl (by first | omega | (dsimp only; omega))) ?_)
        refine AD1.rpy rfl rfl rfl rfl (fun _ _ h => h) (rp_move rfl rfl) ?_
        (refine AD1.rpy rfl rfl rfl rfl (fun _ _ h => h) (rp_lssF rfl rfl rfl (by first | assumption | omega | (dsimp only; omega))) ?_)
        refine AD1.rp rfl rfl rfl (fun _ _ h => h) (rp_pick rfl rfl rfl) ?_
        refine AD1.nil ?_
        try simp only [thenS, S.put]
        refine AW.condF rfl ?_
        refine AW.skip ?_
        try simp only [thenS]
        refine ⟨_, ?_, rfl⟩
        exact (Less.of rfl (by repeat (first | exact trivial | refine ⟨⟨_, rfl, Wk.refl _⟩, ?_⟩ | refine ⟨⟨_, rfl, Wk.nil _ _⟩, ?_⟩ | refine ⟨⟨_, rfl, Wk.junk _⟩, ?_⟩)) (by repeat (first | exact trivial | refine ⟨rfl, ?_⟩)) rfl)
     rintro s' rfl
     clear hlt2 hge hinf hF
     refine AW.seq ?_
     refine AW.region ?_
     refine AL.rp rfl rfl (rp_assign rfl rfl) ?_
     refine AL.nil ?_
     try simp only [thenS, S.put]
     refine AW.block ?_
     refine AW.loop (fun s' => ∃ (j : Nat) (A : List Ar) (ak : Nat), j ≤ la ∧ A = allA dF sts p ++ shL d (xa.take j) ∧ A.length = ak ∧ s' = ⟨165, [(1, .ref 1 0), (2, .ref 2 0), (5, .d (.sl 1 24 (X.map rowE))), (6, .ref 6 0), (7, .b O), (8, .i q), (9, .i F'), (10, .own 902 4 ak (decide (ak = 0))), (11, .i p), (12, .ref 12 0), (13, .i j)], [(1, ⟨24, [.i st, .d (stsD sts)], false, 0⟩), (2, ⟨24, [.i 0, .nil], false, 0⟩), (6, ⟨24, [.i st, .own 901 2 q (decide (q = 0))], false, 0⟩), (901, ⟨50, P.flatMap stV2, decide (q = 0), 2⟩), (902, ⟨54, A.flatMap arV2, decide (ak = 0), 4⟩), (12, ⟨50, [.i f, .d (arsD xa)], false, 0⟩)], []⟩) (fun s' => la - s'.nat 13) ⟨_, ?_, 0, A, ak, by omega, by rw [hA]; simp [shL], hAl, rfl⟩ ?_
     ·exact (Less.of rfl (by repeat (first | exact trivial | refine ⟨⟨_, rfl, Wk.refl _⟩, ?_⟩ | refine ⟨⟨_, rfl, Wk.nil _ _⟩, ?_⟩ | refine ⟨⟨_, rfl, Wk.junk _⟩, ?_⟩)) (by repeat (first | exact trivial | refine ⟨rfl, ?_⟩)) rfl)
     clear hA hAl
     rintro s' ⟨j, A, ak, hj, hA, hAl, rfl⟩
     have hfl : (A.flatMap arV2).length = ak * 4 := by rw [flat_len (sz := 4) (fun _ => rfl), hAl]
     by_cases hltj : j < la
     ·obtain ⟨a, ha⟩ := get_lt hla hltj
      have ham := hxa a (List.mem_of_getElem? ha)
      simp only [arOk, decide_eq_true_eq] at ham
      obtain ⟨e, he⟩ : ∃ e, emp a = e := ⟨_, rfl⟩
      have hem := am_IsEmpE a e he
      have hskip := fun h => shL_skip (d := d) ha (he.trans h)
      have hsnoc := fun h => shL_snoc (d := d) ha (he.trans h)
      have hak : e = false → ak < 400 := fun h => by
       have h1 : (shL d (xa.take (j + 1))).length ≤ (shL d xa).length := by
        unfold shL
        rw [List.length_map, List.length_map]
        exact ((List.take_sublist _ _).filter _).length_le
       rw [hsnoc h] at h1
       rw [← hAl, hA]
       simp only [List.length_append, List.length_cons, List.length_nil] at h1 hallp ⊢
       omega
      obtain ⟨ai, ao, aw, at'⟩ := a
      simp only [shf] at hsnoc ham
      clear he
      cases e with
      | true =>
       have hs := hskip rfl
       clear hskip hsnoc hak
       refine AW.seq ?_
       refine AW.seq ?_
       refine AW.region ?_
       refine AL.rp rfl rfl (rp_move rfl rfl) ?_
       refine AL.rp rfl rfl (rp_field_ref Try.underlying50 rfl rfl rfl inf48 (by decide) rfl) ?_
       refine AL.rd rfl rfl (rd_load_ref Try.underlying48 rfl rfl rfl rfl rfl rfl) ?_
       refine AL.rp rfl rfl (rp_len_map Try.underlying48 rfl rfl (by assumption)) ?_
       (refine AL.rp rfl rfl (rp_lssT rfl rfl rfl (by first | assumption | omega | (dsimp only; omega))) ?_)
       refine AL.nil ?_
       try simp only [thenS, S.put]
       refine AW.condT rfl ?_
       refine AW.skip ?_
       try simp only [thenS]
       refine AW.seq ?_
       refine AW.block ?_
       refine AW.seq ?_
       refine AW.region ?_
       refine AL.rp rfl rfl (rp_field_ref Try.underlying50 rfl rfl rfl inf48 (by decide) rfl) ?_
       refine AL.rd rfl rfl (rd_load_ref Try.underlying48 rfl rfl rfl rfl rfl rfl) ?_
       refine AL.rp rfl rfl (rp_move rfl rfl) ?_
       refine AL.rp rfl rfl (rp_index_map Try.underlying48 inf54 rfl rfl rfl rfl (by assumption)) ?_
       refine AL.rd rfl rfl (rd_loads_ad Try.underlying54 rfl inf54 rfl rfl rfl rfl) ?_
       refine AL.sm rfl (sm_alloc (l := [.d (.p (.int .i64 0)), .d (.p (.int .i64 0)), .d (.p (.int .i64 0)), .d (.p (.int .i64 0))]) 14 inf54 rfl (by simp [S.clean, S.put, S.newObj, S.forget, V.has, V.hasL, junkIf, setL, V.cs, hasL_i, hasL_d, hasL_b, hasL_s, hasL_n, hasL_rep, hasL_flat, hasL_append, -List.map_set]) rfl rfl) ?_
       refine AL.st rfl (st_store_any inf54 rfl rfl rfl rfl rfl rfl rfl rfl (by first | decide | (simp; done) | (simp; omega)) rfl) ?_
       refine AL.nil ?_
       try simp only [thenS, S.put, S.newObj, setL, V.cs, List.length_cons, List.length_nil, List.take_succ_cons, List.take_zero, List.drop_succ_cons, List.drop_zero, List.drop_nil, List.nil_append, List.cons_append, List.append_nil, Nat.zero_add, Nat.reduceAdd, List.map_cons, List.map_nil, List.set_cons_zero, List.set_cons_succ]
       refine AW.seq ?_
       refine AW.region ?_
       refine AL.rd rfl rfl (rd_loads_ref Try.underlying54 rfl inf54 rfl rfl rfl rfl rfl rfl) ?_
       refine AL.call (post := ?pc2) rfl (sm_call (args := [_]) ?hc2 ⟨Try.func42, rfl, rfl, rfl, rfl⟩ rfl rfl rfl rfl) ?_
       case hc2 => exact hem
       rintro _ rfl -
       try dsimp only
       refine AL.rp rfl rfl (rp_notT rfl rfl) ?_
       refine AL.nil ?_
       try simp only [thenS, S.put, S.newObj, setL, V.cs, List.length_cons, List.length_nil, List.take_succ_cons, List.take_zero, List.drop_succ_cons, List.drop_zero, List.drop_nil, List.nil_append, List.cons_append, List.append_nil, Nat.zero_add, Nat.reduceAdd, List.map_cons, List.map_nil, List.set_cons_zero, List.set_cons_succ]
       refine AW.condF rfl ?_
       refine AW.skip ?_
       try simp only [thenS]
       refine AW.region ?_
       refine AL.rp rfl rfl (rp_move rfl rfl) ?_
       refine AL.rp rfl rfl (rp_add rfl rfl rfl (by first | omega | (dsimp only; omega))) ?_
       refine AL.rp rfl rfl (rp_assign rfl rfl) ?_
       refine AL.nil ?_
       try simp only [thenS, S.put]
       refine ⟨_, ?_, ⟨j + 1, A, ak, by omega, by rw [hs, hA], hAl, rfl⟩, ?_⟩
       ·exact (Less.of rfl (by repeat (first | exact trivial | refine ⟨⟨_, rfl, Wk.refl _⟩, ?_⟩ | refine ⟨⟨_, rfl, Wk.nil _ _⟩, ?_⟩ | refine ⟨⟨_, rfl, Wk.junk _⟩, ?_⟩)) (by repeat (first | exact trivial | refine ⟨rfl, ?_⟩)) rfl)
       ·simp [S.nat, fnd]; omega
      | false =>
       have hs := hsnoc rfl
       have hak' := hak rfl
       clear hskip hsnoc hak
       refine AW.seq ?_
       refine AW.seq ?_
       refine AW.region ?_
       refine AL.rp rfl rfl (rp_move rfl rfl) ?_
       refine AL.rp rfl rfl (rp_field_ref Try.underlying50 rfl rfl rfl inf48 (by decide) rfl) ?_
       refine AL.rd rfl rfl (rd_load_ref Try.underlying48 rfl rfl rfl rfl rfl rfl) ?_
       refine AL.rp rfl rfl (rp_len_map Try.underlying48 rfl rfl (by assumption)) ?_
       (refine AL.rp rfl rfl (rp_lssT rfl rfl rfl (by first | assumption | omega | (dsimp only; omega))) ?_)
       refine AL.nil ?_
       try simp only [thenS, S.put]
       refine AW.condT rfl ?_
       refine AW.skip ?_
       try simp only [thenS]
       refine AW.seq ?_
       refine AW.block ?_
       refine AW.seq ?_
       refine AW.region ?_
       refine AL.rp rfl rfl (rp_field_ref Try.underlying50 rfl rfl rfl inf48 (by decide) rfl) ?_
       refine AL.rd rfl rfl (rd_load_ref Try.underlying48 rfl rfl rfl rfl rfl rfl) ?_
       refine AL.rp rfl rfl (rp_move rfl rfl) ?_
       refine AL.rp rfl rfl (rp_index_map Try.underlying48 inf54 rfl rfl rfl rfl (by assumption)) ?_
       refine AL.rd rfl rfl (rd_loads_ad Try.underlying54 rfl inf54 rfl rfl rfl rfl) ?_
       refine AL.sm rfl (sm_alloc (l := [.d (.p (.int .i64 0)), .d (.p (.int .i64 0)), .d (.p (.int .i64 0)), .d (.p (.int .i64 0))]) 14 inf54 rfl (by simp [S.clean, S.put, S.newObj, S.forget, V.has, V.hasL, junkIf, setL, V.cs, hasL_i, hasL_d, hasL_b, hasL_s, hasL_n, hasL_rep, hasL_flat, hasL_append, -List.map_set]) rfl rfl) ?_
       refine AL.st rfl (st_store_any inf54 rfl rfl rfl rfl rfl rfl rfl rfl (by first | decide | (simp; done) | (simp; omega)) rfl) ?_
       refine AL.nil ?_
       try simp only [thenS, S.put, S.newObj, setL, V.cs, List.length_cons, List.length_nil, List.take_succ_cons, List.take_zero, List.drop_succ_cons, List.drop_zero, List.drop_nil, List.nil_append, List.cons_append, List.append_nil, Nat.zero_add, Nat.reduceAdd, List.map_cons, List.map_nil, List.set_cons_zero, List.set_cons_succ]
       refine AW.seq ?_
       refine AW.region ?_
       refine AL.rd rfl rfl (rd_loads_ref Try.underlying54 rfl inf54 rfl rfl rfl rfl rfl rfl) ?_
       refine AL.call (post := ?pc3) rfl (sm_call (args := [_]) ?hc3 ⟨Try.func42, rfl, rfl, rfl, rfl⟩ rfl rfl rfl rfl) ?_
       case hc3 => exact hem
       rintro _ rfl -
       try dsimp only
       refine AL.rp rfl rfl (rp_notF rfl rfl) ?_
       refine AL.nil ?_
       try simp only [thenS, S.put, S.newObj, setL, V.cs, List.length_cons, List.length_nil, List.take_succ_cons, List.take_zero, List.drop_succ_cons, List.drop_zero, List.drop_nil, List.nil_append, List.cons_append, List.append_nil, Nat.zero_add, Nat.reduceAdd, List.map_cons, List.map_nil, List.set_cons_zero, List.set_cons_succ]
       refine AW.condT rfl ?_
       refine AW.draw [(0, true), (1, true), (2, true), (3, true), (4, true), (5, true), (6, true), (7, true), (8, true), (9, true), (10, true), (11, true), (12, true), (13, true), (14, true), (15, true), (16, true), (17, true), (18, false), (19, false), (20, false)] (fun i => !([19, 20] : List Nat).contains i) 21 (by kernel_rfl) (by kernel_rfl) rfl (by kernel_rfl) ?_
       refine AD1.rp rfl rfl rfl (fun _ _ h => h) (rp_move rfl rfl) ?_
       refine AD1.rp rfl rfl rfl (fun _ _ h => h) (rp_field_ref Try.underlying54 rfl rfl rfl inf3 (by decide) rfl) ?_
       refine AD1.rd rfl rfl rfl (fun _ _ h => h) (rd_load_ref Try.underlying3 rfl rfl rfl rfl rfl rfl) ?_
       refine AD1.rp rfl rfl rfl (fun _ _ h => h) (rp_field_ref Try.underlying54 rfl rfl rfl inf3 (by decide) rfl) ?_
       refine AD1.rd rfl rfl rfl (fun _ _ h => h) (rd_load_ref Try.underlying3 rfl rfl rfl rfl rfl rfl) ?_
       refine AD1.rp rfl rfl rfl (fun _ _ h => h) (rp_move rfl rfl) ?_
       refine AD1.rp rfl rfl rfl (fun _ _ h => h) (rp_move rfl rfl) ?_
       refine AD1.rp rfl rfl rfl (fun _ _ h => h) (rp_index_map Try.underlying85 inf82 rfl rfl rfl rfl (by assumption)) ?_
       refine AD1.rd rfl rfl rfl (fun _ _ h => h) (rd_load_ad Try.underlying82 rfl rfl rfl rfl) ?_
       refine AD1.rp rfl rfl rfl (fun _ _ h => h) (rp_move rfl rfl) ?_
       refine AD1.rp rfl rfl rfl (fun _ _ h => h) (rp_index_map Try.underlying82 inf3 rfl rfl rfl rfl (by assumption)) ?_
       refine AD1.rd rfl rfl rfl (fun _ _ h => h) (rd_load_ad Try.underlying3 rfl rfl rfl rfl) ?_
       refine AD1.rp rfl rfl rfl (fun _ _ h => h) (rp_field_ref Try.underlying54 rfl rfl rfl inf3 (by decide) rfl) ?_
       refine AD1.rd rfl rfl rfl (fun _ _ h => h) (rd_load_ref Try.underlying3 rfl rfl rfl rfl rfl rfl) ?_
       refine AD1.rp rfl rfl rfl (fun _ _ h => h) (rp_add rfl rfl rfl (by first | omega | (dsimp only; omega))) ?_
       refine AD1.rp rfl rfl rfl (fun _ _ h => h) (rp_field_ref Try.underlying54 rfl rfl rfl inf3 (by decide) rfl) ?_
       refine AD1.rd rfl rfl rfl (fun _ _ h => h) (rd_load_ref Try.underlying3 rfl rfl rfl rfl rfl rfl) ?_
       refine AD1.rp rfl rfl rfl (fun _ _ h => h) (rp_build (vs := [(0, _), (1, _), (2, _), (3, _)]) (zs := [.d (.p (.int .i64 0)), .d (.p (.int .i64 0)), .d (.p (.int .i64 0)), .d (.p (.int .i64 0))]) pl54 inf54 rfl rfl rfl rfl) ?_
       refine AD1.go ?_
       refine AD2.sm rfl rfl (sm_slice (vs := [(0, _)]) (zs := [.d (.p (.int .i64 0)), .d (.p (.int .i64 0)), .d (.p (.int .i64 0)), .d (.p (.int .i64 0))]) 118 Try.underlying48 inf54 rfl rfl (by decide) (by decide) (by decide) rfl rfl rfl rfl (by simp [S.clean, S.put, S.newObj, S.forget, V.has, V.hasL, junkIf, setL, V.cs, hasL_i, hasL_d, hasL_b, hasL_s, hasL_n, hasL_rep, hasL_flat, hasL_append, -List.map_set]) rfl rfl) ?_
       refine AD2.go ?_
       refine AD3.st rfl rfl rfl (st_appendF Try.underlying48 inf54 rfl (by decide) rfl rfl rfl rfl rfl rfl (by first | assumption | rfl | (simp; done)) (by simp [S.clean, S.put, S.newObj, S.forget, V.has, V.hasL, junkIf, setL, V.cs, hasL_i, hasL_d, hasL_b, hasL_s, hasL_n, hasL_rep, hasL_flat, hasL_append, -List.map_set]) rfl rfl rfl rfl rfl rfl rfl (by decide) (by omega) (by omega) rfl) ?_
       simp only [S.forget, S.put, S.newObj, junkIf, V.has, V.hasL, hasL_i, hasL_b, hasL_s, hasL_d, hasL_n, hasL_rep, hasL_flat, hasL_append, List.map_cons, List.map_nil, List.filter_cons, List.filter_nil, Nat.reduceBNe, Nat.reduceBEq, eq_self, bne_self_eq_false,  Bool.not_true, Bool.not_false, Bool.or_false, Bool.or_true, Bool.false_or, Bool.true_or, if_true, if_false, Bool.false_eq_true, ite_true, ite_false, ↓reduceIte, beq_self_eq_true, Nat.reduceEqDiff]
       refine AD3.rp1 rfl rfl rfl rfl (rp_assign rfl rfl) ?_
       refine AD3.nil ?_
       try simp only [thenS, S.put, S.newObj, setL, V.cs, List.length_cons, List.length_nil, List.take_succ_cons, List.take_zero, List.drop_succ_cons, List.drop_zero, List.drop_nil, List.nil_append, List.cons_append, List.append_nil, Nat.zero_add, Nat.reduceAdd, List.map_cons, List.map_nil, List.set_cons_zero, List.set_cons_succ]
       refine AW.region ?_
       refine AL.rp rfl rfl (rp_move rfl rfl) ?_
       refine AL.rp rfl rfl (rp_add rfl rfl rfl (by first | omega | (dsimp only; omega))) ?_
       refine AL.rp rfl rfl (rp_assign rfl rfl) ?_
       refine AL.nil ?_
       try simp only [thenS, S.put]
       refine ⟨_, ?_, ⟨j + 1, A ++ [⟨ai, ao, (d : Int) + aw, at'⟩], ak + 1, by omega, by rw [hs, ← List.append_assoc, ← hA], by simp [hAl], rfl⟩, ?_⟩
       ·simp only [List.flatMap_append, List.flatMap_cons, List.flatMap_nil, List.append_nil]
        exact (Less.of rfl (by repeat (first | exact trivial | refine ⟨⟨_, rfl, Wk.refl _⟩, ?_⟩ | refine ⟨⟨_, rfl, Wk.nil _ _⟩, ?_⟩ | refine ⟨⟨_, rfl, Wk.junk _⟩, ?_⟩)) (by repeat (first | exact trivial | refine ⟨rfl, ?_⟩)) rfl)
       ·simp [S.nat, fnd]; omega
     ·rw [List.take_of_length_le (by omega), ← hall] at hA
      refine AW.seq ?_
      refine AW.seq ?_
      refine AW.region ?_
      refine AL.rp rfl rfl (rp_move rfl rfl) ?_
      refine AL.rp rfl rfl (rp_field_ref Try.underlying50 rfl rfl rfl inf48 (by decide) rfl) ?_
      refine AL.rd rfl rfl (rd_load_ref Try.underlying48 rfl rfl rfl rfl rfl rfl) ?_
      refine AL.rp rfl rfl (rp_len_map Try.underlying48 rfl rfl (by assumption)) ?_
      (refine AL.rp rfl rfl (rp_lssF rfl rfl rfl (by first | assumption | omega | (dsimp only; omega))) ?_)
      refine AL.nil ?_
      try simp only [thenS, S.put]
      refine AW.condF rfl ?_
      refine AW.exit ?_
      try simp only [thenS, inBlockS, ↓reduceIte, Nat.reduceEqDiff]
      refine AW.region ?_
      refine AL.rp rfl rfl (rp_move rfl rfl) ?_
      refine AL.rp rfl rfl (rp_add rfl rfl rfl (by first | omega | (dsimp only; omega))) ?_
      refine AL.rp rfl rfl (rp_assign rfl rfl) ?_
      refine AL.nil ?_
      try simp only [thenS, S.put]
      refine ⟨_, ?_, ⟨p + 1, A, ak, F', by omega, hF'.symm, hA, hAl, rfl⟩, ?_⟩
      ·exact (Less.of rfl (by repeat (first | exact trivial | refine ⟨⟨_, rfl, Wk.refl _⟩, ?_⟩ | refine ⟨⟨_, rfl, Wk.nil _ _⟩, ?_⟩ | refine ⟨⟨_, rfl, Wk.junk _⟩, ?_⟩)) (by repeat (first | exact trivial | refine ⟨rfl, ?_⟩)) rfl)
      ·simp [S.nat, fnd]; omega
   ·obtain rfl : p = n := by omega
    have hA4 : A.length ≤ 400 := by rw [hA]; exact allA_400 (by omega) hz2
    have hin := am_InOrder A hA4
    have hlg := am_lightest (inO A) (by rw [inO_len]; exact hA4)
    have hLe : lst (inO A) = emA sts q := by rw [hA0, hA]; rfl
    rw [← hF] at hF0
    have hFb : F ≤ big := by rw [hF]; exact finN_le _ _ _
    rw [hLe] at hlg
    obtain ⟨L, hL⟩ : ∃ L, emA sts q = L := ⟨_, rfl⟩
    have hLl : L.length ≤ 400 := by
     rw [← hL, hA0, ← hA]
     exact Nat.le_trans (inL_len A) hA4
    obtain ⟨t, ht⟩ : ∃ t, tldF F = t := ⟨_, rfl⟩
    obtain ⟨u, hu⟩ : ∃ u, tldE F = u := ⟨_, rfl⟩
    have htold := am_ToldE F t u ht hu hFb
    have hou : decide (F ≠ big ∧ 1000000000 < F) = decide (u ≠ 0) := by
     rw [← hu]; unfold tldE
     by_cases h : F ≠ big ∧ 1000000000 < F
     ·simp [h]
     ·rw [if_neg h]; simp [h]
    have hPn : P ++ [⟨t, L⟩] = bl (fun q => ⟨tldF (emF sts q), emA sts q⟩) (q + 1) := by
     rw [hP, ← ht, ← hL, ← hF0]
     unfold bl
     rw [List.range_succ, List.map_append]; rfl
    rw [hF0, hou, hL] at hO0
    rw [hL] at hlg
    clear hou hu ht hL hLe hF hF0 hA0 hA hP hrg
    refine AW.seq ?_
    refine AW.seq ?_
    refine AW.region ?_
    refine AL.rp rfl rfl (rp_move rfl rfl) ?_
    refine AL.rp rfl rfl (rp_field_ref Try.underlying24 rfl rfl rfl inf22 (by decide) rfl) ?_
    refine AL.rd rfl rfl (rd_load_ref Try.underlying22 rfl rfl rfl rfl rfl rfl) ?_
    refine AL.rp rfl rfl (rp_len_map Try.underlying22 rfl rfl (by assumption)) ?_
    (refine AL.rp rfl rfl (rp_lssF rfl rfl rfl (by first | assumption | omega | (dsimp only; omega))) ?_)
    refine AL.nil ?_
    try simp only [thenS, S.put]
    refine AW.condF rfl ?_
    refine AW.exit ?_
    try simp only [thenS, inBlockS, ↓reduceIte, Nat.reduceEqDiff]
    refine AW.seq ?_
    refine AW.freeze 10 32 (A.map arD) rfl rfl rfl (by rw [List.length_map, hAl]) (by omega) (rowsF (enc := arD) (sz := 4) (l := A) (fun _ => rfl) rfl) ?_
    refine AW.region ?_
    refine AL.rp rfl rfl (rp_move rfl rfl) ?_
    refine AL.call (post := ?pc4) rfl (sm_call (args := [_]) ?hc4 ⟨Try.func44, rfl, rfl, rfl, rfl⟩ rfl rfl rfl rfl) ?_
    case hc4 => exact hin
    rintro _ rfl -
    try dsimp only
    refine AL.call (post := ?pc5) rfl (sm_call (args := [_]) ?hc5 ⟨Try.func43, rfl, rfl, rfl, rfl⟩ rfl rfl rfl rfl) ?_
    case hc5 => exact hlg
    rintro _ rfl -
    try dsimp only
    refine AL.rp rfl rfl (rp_assign rfl rfl) ?_
    refine AL.nil ?_
    try simp only [thenS, S.put, S.newObj, setL, V.cs, List.length_cons, List.length_nil, List.take_succ_cons, List.take_zero, List.drop_succ_cons, List.drop_zero, List.drop_nil, List.nil_append, List.cons_append, List.append_nil, Nat.zero_add, Nat.reduceAdd, List.map_cons, List.map_nil, List.set_cons_zero, List.set_cons_succ]
    refine AW.seq ?_
    refine AW.region ?_
    refine AL.rp rfl rfl (rp_move rfl rfl) ?_
    refine AL.call (post := ?pc6) rfl (sm_call (args := [_]) ?hc6 ⟨Try.func45, rfl, rfl, rfl, rfl⟩ rfl rfl rfl rfl) ?_
    case hc6 => exact htold
    rintro _ rfl -
    try dsimp only
    refine AL.rp rfl rfl (rp_move rfl rfl) ?_
    refine AL.rp rfl rfl (rp_extract rfl rfl rfl) ?_
    refine AL.rp rfl rfl (rp_extract rfl rfl rfl) ?_
    refine AL.rp rfl rfl (rp_assign rfl rfl) ?_
    refine AL.rp rfl rfl (rp_assign rfl rfl) ?_
    refine AL.nil ?_
    try simp only [thenS, S.put, S.newObj, setL, V.cs, List.length_cons, List.length_nil, List.take_succ_cons, List.take_zero, List.drop_succ_cons, List.drop_zero, List.drop_nil, List.nil_append, List.cons_append, List.append_nil, Nat.zero_add, Nat.reduceAdd, List.map_cons, List.map_nil, List.set_cons_zero, List.set_cons_succ]
    refine AW.seqc (fun s' => ∃ B : Bool, B = (O || decide (u ≠ 0)) ∧ s' = ⟨165, [(1, .ref 1 0), (2, .ref 2 0), (5, .d (.sl 1 24 (X.map rowE))), (6, .ref 6 0), (7, .b B), (8, .i q), (10, .d (arsD L)), (15, .i t)], [(1, ⟨24, [.i st, .d (stsD sts)], false, 0⟩), (2, ⟨24, [.i 0, .nil], false, 0⟩), (6, ⟨24, [.i st, .own 901 2 q (decide (q = 0))], false, 0⟩), (901, ⟨50, P.flatMap stV2, decide (q = 0), 2⟩)], []⟩) ?_ ?_
    ·skip
     cases O with
     | true =>
      refine AW.region ?_
      refine AL.rp rfl rfl (rp_move rfl rfl) ?_
      refine AL.rp rfl rfl (rp_move rfl rfl) ?_
      refine AL.noV rfl rfl rfl rfl ?_
      refine AL.noV rfl rfl rfl rfl ?_
      refine AL.rp rfl rfl (rp_pick rfl rfl rfl) ?_
      refine AL.rp rfl rfl (rp_assign rfl rfl) ?_
      refine AL.nil ?_
      try simp only [thenS, S.put]
      refine ⟨_, ?_, true, by simp, rfl⟩
      exact (Less.of rfl (by repeat (first | exact trivial | refine ⟨⟨_, rfl, Wk.refl _⟩, ?_⟩ | refine ⟨⟨_, rfl, Wk.nil _ _⟩, ?_⟩ | refine ⟨⟨_, rfl, Wk.junk _⟩, ?_⟩)) (by repeat (first | exact trivial | refine ⟨rfl, ?_⟩)) rfl)
     | false =>
      by_cases hE1 : u = 0
      ·skip
       refine AW.region ?_
       refine AL.rp rfl rfl (rp_move rfl rfl) ?_
       refine AL.rp rfl rfl (rp_move rfl rfl) ?_
       refine AL.rpy rfl rfl rfl (rp_move rfl rfl) ?_
       (refine AL.rpy rfl rfl rfl (rp_neqF rfl rfl rfl (by first | assumption | omega | (dsimp only; omega))) ?_)
       refine AL.rp rfl rfl (rp_pick rfl rfl rfl) ?_
       refine AL.rp rfl rfl (rp_assign rfl rfl) ?_
       refine AL.nil ?_
       try simp only [thenS, S.put]
       refine ⟨_, ?_, false, by simp [hE1], rfl⟩
       exact (Less.of rfl (by repeat (first | exact trivial | refine ⟨⟨_, rfl, Wk.refl _⟩, ?_⟩ | refine ⟨⟨_, rfl, Wk.nil _ _⟩, ?_⟩ | refine ⟨⟨_, rfl, Wk.junk _⟩, ?_⟩)) (by repeat (first | exact trivial | refine ⟨rfl, ?_⟩)) rfl)
      ·skip
       refine AW.region ?_
       refine AL.rp rfl rfl (rp_move rfl rfl) ?_
       refine AL.rp rfl rfl (rp_move rfl rfl) ?_
       refine AL.rpy rfl rfl rfl (rp_move rfl rfl) ?_
       (refine AL.rpy rfl rfl rfl (rp_neqT rfl rfl rfl (by first | assumption | omega | (dsimp only; omega))) ?_)
       refine AL.rp rfl rfl (rp_pick rfl rfl rfl) ?_
       refine AL.rp rfl rfl (rp_assign rfl rfl) ?_
       refine AL.nil ?_
       try simp only [thenS, S.put]
       refine ⟨_, ?_, true, by simp [hE1], rfl⟩
       exact (Less.of rfl (by repeat (first | exact trivial | refine ⟨⟨_, rfl, Wk.refl _⟩, ?_⟩ | refine ⟨⟨_, rfl, Wk.nil _ _⟩, ?_⟩ | refine ⟨⟨_, rfl, Wk.junk _⟩, ?_⟩)) (by repeat (first | exact trivial | refine ⟨rfl, ?_⟩)) rfl)
    rintro s' ⟨B1, hB1, rfl⟩
    rw [← Bool.or_assoc, ← hB1] at hO0
    obtain ⟨lk, hlk⟩ : ∃ lk, L.length = lk := ⟨_, rfl⟩
    rw [hlk] at hLl
    clear htold hB1
    refine AW.seq ?_
    refine AW.seq ?_
    refine AW.region ?_
    refine AL.rp rfl rfl (rp_assign rfl rfl) ?_
    refine AL.nil ?_
    try simp only [thenS, S.put]
    refine AW.block ?_
    refine AW.loop (fun s' => ∃ (k : Nat) (B : Bool), k ≤ lk ∧ B = (B1 || (L.take k).any ovA) ∧ s' = ⟨165, [(1, .ref 1 0), (2, .ref 2 0), (5, .d (.sl 1 24 (X.map rowE))), (6, .ref 6 0), (7, .b B), (8, .i q), (10, .d (arsD L)), (15, .i t), (17, .i k)], [(1, ⟨24, [.i st, .d (stsD sts)], false, 0⟩), (2, ⟨24, [.i 0, .nil], false, 0⟩), (6, ⟨24, [.i st, .own 901 2 q (decide (q = 0))], false, 0⟩), (901, ⟨50, P.flatMap stV2, decide (q = 0), 2⟩)], []⟩) (fun s' => lk - s'.nat 17) ⟨_, ?_, 0, B1, by omega, (by simp), rfl⟩ ?_
    ·exact (Less.of rfl (by repeat (first | exact trivial | refine ⟨⟨_, rfl, Wk.refl _⟩, ?_⟩ | refine ⟨⟨_, rfl, Wk.nil _ _⟩, ?_⟩ | refine ⟨⟨_, rfl, Wk.junk _⟩, ?_⟩)) (by repeat (first | exact trivial | refine ⟨rfl, ?_⟩)) rfl)
    rintro s' ⟨k, B, hk, hB, rfl⟩
    by_cases hltk : k < lk
    ·obtain ⟨a, ha⟩ := get_lt hlk hltk
     have hsn : (B1 || (L.take (k + 1)).any ovA) = (B || decide (1000000000 < a.w)) := by
      rw [take_snoc ha, List.any_append, ← Bool.or_assoc, ← hB]; simp [ovA]
     obtain ⟨ai, ao, aw, at'⟩ := a
     simp only at hsn
     clear hB
     cases B with
     | true =>
      refine AW.seq ?_
      refine AW.seq ?_
      refine AW.region ?_
      refine AL.rp rfl rfl (rp_move rfl rfl) ?_
      refine AL.rp rfl rfl (rp_move rfl rfl) ?_
      refine AL.rp rfl rfl (rp_len_map Try.underlying48 rfl rfl (by assumption)) ?_
      (refine AL.rp rfl rfl (rp_lssT rfl rfl rfl (by first | assumption | omega | (dsimp only; omega))) ?_)
      refine AL.nil ?_
      try simp only [thenS, S.put]
      refine AW.condT rfl ?_
      refine AW.skip ?_
      try simp only [thenS]
      refine AW.seq ?_
      refine AW.block ?_
      refine AW.region ?_
      refine AL.rp rfl rfl (rp_move rfl rfl) ?_
      refine AL.rp rfl rfl (rp_move rfl rfl) ?_
      refine AL.noV rfl rfl rfl rfl ?_
      refine AL.noV rfl rfl rfl rfl ?_
      refine AL.noV rfl rfl rfl rfl ?_
      refine AL.noV rfl rfl rfl rfl ?_
      refine AL.noV rfl rfl rfl rfl ?_
      refine AL.noV rfl rfl rfl rfl ?_
      refine AL.rp rfl rfl (rp_pick rfl rfl rfl) ?_
      refine AL.rp rfl rfl (rp_assign rfl rfl) ?_
      refine AL.nil ?_
      try simp only [thenS, S.put]
      refine AW.region ?_
      refine AL.rp rfl rfl (rp_move rfl rfl) ?_
      refine AL.rp rfl rfl (rp_add rfl rfl rfl (by first | omega | (dsimp only; omega))) ?_
      refine AL.rp rfl rfl (rp_assign rfl rfl) ?_
      refine AL.nil ?_
      try simp only [thenS, S.put]
      refine ⟨_, ?_, ⟨k + 1, true, by omega, by rw [hsn]; simp, rfl⟩, ?_⟩
      ·exact (Less.of rfl (by repeat (first | exact trivial | refine ⟨⟨_, rfl, Wk.refl _⟩, ?_⟩ | refine ⟨⟨_, rfl, Wk.nil _ _⟩, ?_⟩ | refine ⟨⟨_, rfl, Wk.junk _⟩, ?_⟩)) (by repeat (first | exact trivial | refine ⟨rfl, ?_⟩)) rfl)
      ·simp [S.nat, fnd]; omega
     | false =>
      by_cases hv : 1000000000 < aw
      ·skip
       refine AW.seq ?_
       refine AW.seq ?_
       refine AW.region ?_
       refine AL.rp rfl rfl (rp_move rfl rfl) ?_
       refine AL.rp rfl rfl (rp_move rfl rfl) ?_
       refine AL.rp rfl rfl (rp_len_map Try.underlying48 rfl rfl (by assumption)) ?_
       (refine AL.rp rfl rfl (rp_lssT rfl rfl rfl (by first | assumption | omega | (dsimp only; omega))) ?_)
       refine AL.nil ?_
       try simp only [thenS, S.put]
       refine AW.condT rfl ?_
       refine AW.skip ?_
       try simp only [thenS]
       refine AW.seq ?_
       refine AW.block ?_
       refine AW.region ?_
       refine AL.rp rfl rfl (rp_move rfl rfl) ?_
       refine AL.rp rfl rfl (rp_move rfl rfl) ?_
       refine AL.rpy rfl rfl rfl (rp_move rfl rfl) ?_
       refine AL.rpy rfl rfl rfl (rp_move rfl rfl) ?_
       refine AL.rpy rfl rfl rfl (rp_index_map Try.underlying48 inf54 rfl rfl rfl rfl (by assumption)) ?_
       refine AL.rpy rfl rfl rfl (rp_field_ad Try.underlying54 rfl rfl rfl inf3 (by decide) rfl) ?_
       refine AL.rdy rfl rfl rfl (rd_load_ad Try.underlying3 rfl rfl rfl rfl) ?_
       (refine AL.rpy rfl rfl rfl (rp_gtrT rfl rfl rfl (by first | assumption | omega | (dsimp only; omega))) ?_)
       refine AL.rp rfl rfl (rp_pick rfl rfl rfl) ?_
       refine AL.rp rfl rfl (rp_assign rfl rfl) ?_
       refine AL.nil ?_
       try simp only [thenS, S.put]
       refine AW.region ?_
       refine AL.rp rfl rfl (rp_move rfl rfl) ?_
       refine AL.rp rfl rfl (rp_add rfl rfl rfl (by first | omega | (dsimp only; omega))) ?_
       refine AL.rp rfl rfl (rp_assign rfl rfl) ?_
       refine AL.nil ?_
       try simp only [thenS, S.put]
       refine ⟨_, ?_, ⟨k + 1, true, by omega, by rw [hsn]; simp [hv], rfl⟩, ?_⟩
       ·exact (Less.of rfl (by repeat (first | exact trivial | refine ⟨⟨_, rfl, Wk.refl _⟩, ?_⟩ | refine ⟨⟨_, rfl, Wk.nil _ _⟩, ?_⟩ | refine ⟨⟨_, rfl, Wk.junk _⟩, ?_⟩)) (by repeat (first | exact trivial | refine ⟨rfl, ?_⟩)) rfl)
       ·simp [S.nat, fnd]; omega
      ·skip
       refine AW.seq ?_
       refine AW.seq ?_
       refine AW.region ?_
       refine AL.rp rfl rfl (rp_move rfl rfl) ?_
       refine AL.rp rfl rfl (rp_move rfl rfl) ?_
       refine AL.rp rfl rfl (rp_len_map Try.underlying48 rfl rfl (by assumption)) ?_
       (refine AL.rp rfl rfl (rp_lssT rfl rfl rfl (by first | assumption | omega | (dsimp only; omega))) ?_)
       refine AL.nil ?_
       try simp only [thenS, S.put]
       refine AW.condT rfl ?_
       refine AW.skip ?_
       try simp only [thenS]
       refine AW.seq ?_
       refine AW.block ?_
       refine AW.region ?_
       refine AL.rp rfl rfl (rp_move rfl rfl) ?_
       refine AL.rp rfl rfl (rp_move rfl rfl) ?_
       refine AL.rpy rfl rfl rfl (rp_move rfl rfl) ?_
       refine AL.rpy rfl rfl rfl (rp_move rfl rfl) ?_
       refine AL.rpy rfl rfl rfl (rp_index_map Try.underlying48 inf54 rfl rfl rfl rfl (by assumption)) ?_
       refine AL.rpy rfl rfl rfl (rp_field_ad Try.underlying54 rfl rfl rfl inf3 (by decide) rfl) ?_
       refine AL.rdy rfl rfl rfl (rd_load_ad Try.underlying3 rfl rfl rfl rfl) ?_
       (refine AL.rpy rfl rfl rfl (rp_gtrF rfl rfl rfl (by first | assumption | omega | (dsimp only; omega))) ?_)
       refine AL.rp rfl rfl (rp_pick rfl rfl rfl) ?_
       refine AL.rp rfl rfl (rp_assign rfl rfl) ?_
       refine AL.nil ?_
       try simp only [thenS, S.put]
       refine AW.region ?_
       refine AL.rp rfl rfl (rp_move rfl rfl) ?_
       refine AL.rp rfl rfl (rp_add rfl rfl rfl (by first | omega | (dsimp only; omega))) ?_
       refine AL.rp rfl rfl (rp_assign rfl rfl) ?_
       refine AL.nil ?_
       try simp only [thenS, S.put]
       refine ⟨_, ?_, ⟨k + 1, false, by omega, by rw [hsn]; simp [hv], rfl⟩, ?_⟩
       ·exact (Less.of rfl (by repeat (first | exact trivial | refine ⟨⟨_, rfl, Wk.refl _⟩, ?_⟩ | refine ⟨⟨_, rfl, Wk.nil _ _⟩, ?_⟩ | refine ⟨⟨_, rfl, Wk.junk _⟩, ?_⟩)) (by repeat (first | exact trivial | refine ⟨rfl, ?_⟩)) rfl)
       ·simp [S.nat, fnd]; omega
    ·rw [List.take_of_length_le (by omega)] at hB
     refine AW.seq ?_
     refine AW.seq ?_
     refine AW.region ?_
     refine AL.rp rfl rfl (rp_move rfl rfl) ?_
     refine AL.rp rfl rfl (rp_move rfl rfl) ?_
     refine AL.rp rfl rfl (rp_len_map Try.underlying48 rfl rfl (by assumption)) ?_
     (refine AL.rp rfl rfl (rp_lssF rfl rfl rfl (by first | assumption | omega | (dsimp only; omega))) ?_)
     refine AL.nil ?_
     try simp only [thenS, S.put]
     refine AW.condF rfl ?_
     refine AW.exit ?_
     try simp only [thenS, inBlockS, ↓reduceIte, Nat.reduceEqDiff]
     refine AW.region ?_
     refine AL.rp rfl rfl (rp_field_ref Try.underlying24 rfl rfl rfl inf22 (by decide) rfl) ?_
     refine AL.rd rfl rfl (rd_load_ref Try.underlying22 rfl rfl rfl rfl rfl rfl) ?_
     refine AL.rp rfl rfl (rp_move rfl rfl) ?_
     refine AL.rp rfl rfl (rp_move rfl rfl) ?_
     refine AL.rp rfl rfl (rp_build (vs := [(0, _), (1, _)]) (zs := [.d (.p (.int .i64 0)), .d (.p (.slice none 0 0))]) pl50 inf50 rfl rfl rfl rfl) ?_
     refine AL.sm rfl (sm_slice (vs := [(0, _)]) (zs := [.d (.p (.int .i64 0)), .d (.p (.slice none 0 0))]) 153 Try.underlying22 inf50 rfl rfl (by decide) (by decide) (by decide) rfl rfl rfl rfl (by simp [S.clean, S.put, S.newObj, S.forget, V.has, V.hasL, junkIf, setL, V.cs, hasL_i, hasL_d, hasL_b, hasL_s, hasL_n, hasL_rep, hasL_flat, hasL_append, -List.map_set]) rfl rfl) ?_
     refine AL.st rfl (st_appendF Try.underlying22 inf50 rfl (by decide) rfl rfl rfl rfl rfl rfl (by first | assumption | rfl | (simp; done)) (by simp [S.clean, S.put, S.newObj, S.forget, V.has, V.hasL, junkIf, setL, V.cs, hasL_i, hasL_d, hasL_b, hasL_s, hasL_n, hasL_rep, hasL_flat, hasL_append, -List.map_set]) rfl rfl rfl rfl rfl rfl rfl (by decide) (by omega) (by omega) rfl) ?_
     simp only [S.forget, S.put, S.newObj, junkIf, V.has, V.hasL, hasL_i, hasL_b, hasL_s, hasL_d, hasL_n, hasL_rep, hasL_flat, hasL_append, List.map_cons, List.map_nil, List.filter_cons, List.filter_nil, Nat.reduceBNe, Nat.reduceBEq, eq_self, bne_self_eq_false,  Bool.not_true, Bool.not_false, Bool.or_false, Bool.or_true, Bool.false_or, Bool.true_or, if_true, if_false, Bool.false_eq_true, ite_true, ite_false, ↓reduceIte, beq_self_eq_true, Nat.reduceEqDiff]
     refine AL.rp rfl rfl (rp_field_ref Try.underlying24 rfl rfl rfl inf22 (by decide) rfl) ?_
     (refine AL.st rfl (st_store inf22 rfl rfl rfl rfl rfl rfl rfl (by first | decide | (simp; done)) rfl) ?_)
     refine AL.nil ?_
     try simp only [thenS, S.put, S.newObj, setL, V.cs, List.length_cons, List.length_nil, List.take_succ_cons, List.take_zero, List.drop_succ_cons, List.drop_zero, List.drop_nil, List.nil_append, List.cons_append, List.append_nil, Nat.zero_add, Nat.reduceAdd, List.map_cons, List.map_nil, List.set_cons_zero, List.set_cons_succ]
     refine AW.region ?_
     refine AL.rp rfl rfl (rp_move rfl rfl) ?_
     refine AL.rp rfl rfl (rp_add rfl rfl rfl (by first | omega | (dsimp only; omega))) ?_
     refine AL.rp rfl rfl (rp_assign rfl rfl) ?_
     refine AL.nil ?_
     try simp only [thenS, S.put]
     refine ⟨_, ?_, ⟨q + 1, P ++ [⟨t, L⟩], B, by omega, by simp [hPl], hPn, by rw [hO0, hB], rfl⟩, ?_⟩
     ·simp only [List.flatMap_append, List.flatMap_cons, List.flatMap_nil, List.append_nil]
      exact (Less.of rfl (by repeat (first | exact trivial | refine ⟨⟨_, rfl, Wk.refl _⟩, ?_⟩ | refine ⟨⟨_, rfl, Wk.nil _ _⟩, ?_⟩ | refine ⟨⟨_, rfl, Wk.junk _⟩, ?_⟩)) (by repeat (first | exact trivial | refine ⟨rfl, ?_⟩)) rfl)
     ·simp [S.nat, fnd]; omega
  ·obtain rfl : q = n := by omega
   rw [← hO] at hE
   have hPe : P = emL sts := by rw [hP, emL, hn]
   have hfo := am_Fits_ok (m := ⟨st, P⟩) (by simp only [hPl]; omega)
   have hfn := am_Fits_no (m := ⟨st, P⟩) (by simp only [hPl]; omega)
   have hPa : arcN P ≤ 1000000000 := by
    have h1 : ∀ x ∈ P, x.arcs.length ≤ 400 := fun x hx => by
     rw [hP] at hx
     obtain ⟨i, hi⟩ := List.getElem?_of_mem hx
     obtain ⟨hi2, rfl⟩ := bl_inv hi
     simp only [emA]
     exact Nat.le_trans (inL_len _) (allA_400 (by omega) hz2)
    have h2 : ∀ l : List St, (∀ x ∈ l, x.arcs.length ≤ 400) → arcN l ≤ l.length * 400 := by
     intro l
     induction l with
     | nil => simp [arcN]
     | cons y l ih =>
      intro hl
      have h3 := ih fun x hx => hl x (by simp [hx])
      have h4 := hl y (by simp)
      simp only [arcN, List.map_cons, List.sum_cons, List.length_cons, Nat.succ_mul] at h3 ⊢
      omega
    have h3 := h2 P h1
    rw [hPl] at h3
    omega
   rw [← hPe] at hE hRR
   simp only at hfo hfn
   have hfo := hfo hPa
   have hfn := hfn hPa
   cases O with
   | true =>
    rw [if_pos rfl] at hE
    refine AW.seq ?_
    refine AW.seq ?_
    refine AW.region ?_
    refine AL.rp rfl rfl (rp_move rfl rfl) ?_
    refine AL.rp rfl rfl (rp_field_ref Try.underlying24 rfl rfl rfl inf22 (by decide) rfl) ?_
    refine AL.rd rfl rfl (rd_load_ref Try.underlying22 rfl rfl rfl rfl rfl rfl) ?_
    refine AL.rp rfl rfl (rp_len_map Try.underlying22 rfl rfl (by assumption)) ?_
    (refine AL.rp rfl rfl (rp_lssF rfl rfl rfl (by first | assumption | omega | (dsimp only; omega))) ?_)
    refine AL.nil ?_
    try simp only [thenS, S.put]
    refine AW.condF rfl ?_
    refine AW.exit ?_
    try simp only [thenS, inBlockS, ↓reduceIte, Nat.reduceEqDiff]
    refine AW.seq ?_
    refine AW.seq ?_
    refine AW.region ?_
    refine AL.rp rfl rfl (rp_move rfl rfl) ?_
    refine AL.nil ?_
    try simp only [thenS, S.put]
    refine AW.condT rfl ?_
    refine AW.seq ?_
    refine AW.region ?_
    refine AL.rp rfl rfl (rp_build (vs := []) (zs := [.d (.p (.int .i64 0)), .d (.p (.slice none 0 0))]) pl24 inf24 rfl rfl rfl rfl) ?_
    refine AL.st rfl (st_store_any inf24 rfl rfl rfl rfl rfl rfl rfl rfl (by first | decide | (simp; done) | (simp; omega)) rfl) ?_
    refine AL.rp rfl rfl (rp_assign rfl rfl) ?_
    refine AL.nil ?_
    try simp only [thenS, S.put, S.newObj, setL, V.cs, List.length_cons, List.length_nil, List.take_succ_cons, List.take_zero, List.drop_succ_cons, List.drop_zero, List.drop_nil, List.nil_append, List.cons_append, List.append_nil, Nat.zero_add, Nat.reduceAdd, List.map_cons, List.map_nil, List.set_cons_zero, List.set_cons_succ]
    refine AW.ret ?_
    exact ⟨[_, _], ⟨⟨2, 0, _, _, rfl, rfl, rfl, Try.underlying24, .inr ⟨rfl, _, _, _, _, inf24, rfl, rfl, rfl⟩⟩, rfl, trivial⟩, .inl ⟨by rw [hE]; decide, by rw [hE]; rfl⟩, by simp [tupOf, V.pure, V.has, V.hasL]⟩
   | false =>
    rw [if_neg (by simp)] at hE
    refine AW.seq ?_
    refine AW.seq ?_
    refine AW.region ?_
    refine AL.rp rfl rfl (rp_move rfl rfl) ?_
    refine AL.rp rfl rfl (rp_field_ref Try.underlying24 rfl rfl rfl inf22 (by decide) rfl) ?_
    refine AL.rd rfl rfl (rd_load_ref Try.underlying22 rfl rfl rfl rfl rfl rfl) ?_
    refine AL.rp rfl rfl (rp_len_map Try.underlying22 rfl rfl (by assumption)) ?_
    (refine AL.rp rfl rfl (rp_lssF rfl rfl rfl (by first | assumption | omega | (dsimp only; omega))) ?_)
    refine AL.nil ?_
    try simp only [thenS, S.put]
    refine AW.condF rfl ?_
    refine AW.exit ?_
    try simp only [thenS, inBlockS, ↓reduceIte, Nat.reduceEqDiff]
    refine AW.seq ?_
    refine AW.seq ?_
    refine AW.region ?_
    refine AL.rp rfl rfl (rp_move rfl rfl) ?_
    refine AL.nil ?_
    try simp only [thenS, S.put]
    refine AW.condF rfl ?_
    refine AW.skip ?_
    try simp only [thenS]
    refine AW.seq ?_
    refine AW.freezeH 6 1 32 (P.map stD) rfl rfl rfl (by decide) rfl rfl (by rw [List.length_map, hPl]) (by omega) (rowsF (enc := stD) (sz := 2) (l := P) (fun _ => rfl) rfl) ?_
    by_cases h4 : 400 < arcN P
    ·rw [if_pos h4] at hE
     have hc := hfn (.inr h4)
     refine AW.region ?_
     refine AL.rd rfl rfl (rd_loads_ref Try.underlying24 rfl inf24 rfl rfl rfl rfl rfl rfl) ?_
     refine AL.call (post := ?pc7) rfl (sm_call (args := [_]) ?hc7 ⟨Try.func46, rfl, rfl, rfl, rfl⟩ rfl rfl rfl rfl) ?_
     case hc7 => exact hc
     rintro _ rfl -
     try dsimp only
     refine AL.rp rfl rfl (rp_move rfl rfl) ?_
     refine AL.rp rfl rfl (rp_extract rfl rfl rfl) ?_
     refine AL.rp rfl rfl (rp_extract rfl rfl rfl) ?_
     refine AL.sm rfl (sm_alloc (l := [.d (.p (.int .i64 0)), .d (.p (.slice none 0 0))]) 18 inf24 rfl rfl rfl rfl) ?_
     refine AL.st rfl (st_store_any inf24 rfl rfl rfl rfl rfl rfl rfl rfl (by first | decide | (simp; done) | (simp; omega)) rfl) ?_
     refine AL.rp rfl rfl (rp_assign rfl rfl) ?_
     refine AL.nil ?_
     try simp only [thenS, S.put, S.newObj, setL, V.cs, List.length_cons, List.length_nil, List.take_succ_cons, List.take_zero, List.drop_succ_cons, List.drop_zero, List.drop_nil, List.nil_append, List.cons_append, List.append_nil, Nat.zero_add, Nat.reduceAdd, List.map_cons, List.map_nil, List.set_cons_zero, List.set_cons_succ]
     refine AW.seq ?_
     refine AW.region ?_
     refine AL.rd rfl rfl (rd_loads_ref Try.underlying24 rfl inf24 rfl rfl rfl rfl rfl rfl) ?_
     refine AL.rp rfl rfl (rp_move rfl rfl) ?_
     refine AL.st rfl (st_store_any inf24 rfl rfl rfl rfl rfl rfl rfl rfl (by first | decide | (simp; done) | (simp; omega)) rfl) ?_
     refine AL.rp rfl rfl (rp_assign rfl rfl) ?_
     refine AL.nil ?_
     try simp only [thenS, S.put, S.newObj, setL, V.cs, List.length_cons, List.length_nil, List.take_succ_cons, List.take_zero, List.drop_succ_cons, List.drop_zero, List.drop_nil, List.nil_append, List.cons_append, List.append_nil, Nat.zero_add, Nat.reduceAdd, List.map_cons, List.map_nil, List.set_cons_zero, List.set_cons_succ]
     refine AW.ret ?_
     exact ⟨[_, _], ⟨⟨2, 0, _, _, rfl, rfl, rfl, Try.underlying24, .inr ⟨rfl, _, _, _, _, inf24, rfl, rfl, rfl⟩⟩, rfl, trivial⟩, .inl ⟨by rw [hE]; decide, by rw [hE]; rfl⟩, by simp [tupOf, V.pure, V.has, V.hasL]⟩
    ·rw [if_neg h4] at hE
     have hc := hfo (by rw [hPl]; omega)
     refine AW.region ?_
     refine AL.rd rfl rfl (rd_loads_ref Try.underlying24 rfl inf24 rfl rfl rfl rfl rfl rfl) ?_
     refine AL.call (post := ?pc8) rfl (sm_call (args := [_]) ?hc8 ⟨Try.func46, rfl, rfl, rfl, rfl⟩ rfl rfl rfl rfl) ?_
     case hc8 => exact hc
     rintro _ rfl -
     try dsimp only
     refine AL.rp rfl rfl (rp_move rfl rfl) ?_
     refine AL.rp rfl rfl (rp_extract rfl rfl rfl) ?_
     refine AL.rp rfl rfl (rp_extract rfl rfl rfl) ?_
     refine AL.sm rfl (sm_alloc (l := [.d (.p (.int .i64 0)), .d (.p (.slice none 0 0))]) 18 inf24 rfl rfl rfl rfl) ?_
     refine AL.st rfl (st_store_any inf24 rfl rfl rfl rfl rfl rfl rfl rfl (by first | decide | (simp; done) | (simp; omega)) rfl) ?_
     refine AL.rp rfl rfl (rp_assign rfl rfl) ?_
     refine AL.nil ?_
     try simp only [thenS, S.put, S.newObj, setL, V.cs, List.length_cons, List.length_nil, List.take_succ_cons, List.take_zero, List.drop_succ_cons, List.drop_zero, List.drop_nil, List.nil_append, List.cons_append, List.append_nil, Nat.zero_add, Nat.reduceAdd, List.map_cons, List.map_nil, List.set_cons_zero, List.set_cons_succ]
     refine AW.seq ?_
     refine AW.region ?_
     refine AL.rd rfl rfl (rd_loads_ref Try.underlying24 rfl inf24 rfl rfl rfl rfl rfl rfl) ?_
     refine AL.rp rfl rfl (rp_move rfl rfl) ?_
     refine AL.st rfl (st_store_any inf24 rfl rfl rfl rfl rfl rfl rfl rfl (by first | decide | (simp; done) | (simp; omega)) rfl) ?_
     refine AL.rp rfl rfl (rp_assign rfl rfl) ?_
     refine AL.nil ?_
     try simp only [thenS, S.put, S.newObj, setL, V.cs, List.length_cons, List.length_nil, List.take_succ_cons, List.take_zero, List.drop_succ_cons, List.drop_zero, List.drop_nil, List.nil_append, List.cons_append, List.append_nil, Nat.zero_add, Nat.reduceAdd, List.map_cons, List.map_nil, List.set_cons_zero, List.set_cons_succ]
     refine AW.ret ?_
     exact ⟨[_, _], ⟨⟨2, 0, _, _, rfl, rfl, rfl, Try.underlying24, .inr ⟨rfl, _, _, _, _, inf24, rfl, rfl, rfl⟩⟩, rfl, trivial⟩, .inr ⟨hE, by rw [hRR hE]; rfl⟩, by simp [tupOf, V.pure, V.has, V.hasL]⟩
 ·obtain ⟨e, he⟩ : ∃ e, machE m = e := ⟨_, rfl⟩
  have hE : emE m = e := by unfold emE; rw [if_pos h0, he]
  rw [hE]
  rw [he] at h0
  obtain ⟨⟨st, sts⟩, rfl⟩ : ∃ m', m' = m := ⟨m, rfl⟩
  refine Fn.intro (n := 165) ⟨Try.func22, rfl, rfl, rfl, rfl⟩ (by simp [V.pure, V.has, V.hasL]) (by simp) fun w0 out => ?_
  refine AW.seq ?_
  refine AW.region ?_
  refine AL.sm rfl (sm_box 1 rfl rfl rfl rfl rfl) ?_
  refine AL.sm rfl (sm_alloc (l := [.d (.p (.int .i64 0)), .d (.p (.slice none 0 0))]) 2 inf24 rfl rfl rfl rfl) ?_
  refine AL.rp rfl rfl (rp_assign rfl rfl) ?_
  refine AL.nil ?_
  try simp only [thenS, S.put, S.newObj, setL, V.cs, List.length_cons, List.length_nil, List.take_succ_cons, List.take_zero, List.drop_succ_cons, List.drop_zero, List.drop_nil, List.nil_append, List.cons_append, List.append_nil, Nat.zero_add, Nat.reduceAdd, List.map_cons, List.map_nil, List.set_cons_zero, List.set_cons_succ, enum]
  refine AW.seq ?_
  refine AW.region ?_
  refine AL.rd rfl rfl (rd_loads_ref Try.underlying24 rfl inf24 rfl rfl rfl rfl rfl rfl) ?_
  refine AL.call (post := ?pc9) rfl (sm_call (args := [_]) ?hc9 ⟨Try.func11, rfl, rfl, rfl, rfl⟩ rfl rfl rfl rfl) ?_
  case hc9 => exact Fn.eqi (am_Fault ⟨st, sts⟩) he
  rintro _ rfl -
  try dsimp only
  refine AL.rp rfl rfl (rp_assign rfl rfl) ?_
  refine AL.nil ?_
  try simp only [thenS, S.put, S.newObj, setL, V.cs, List.length_cons, List.length_nil, List.take_succ_cons, List.take_zero, List.drop_succ_cons, List.drop_zero, List.drop_nil, List.nil_append, List.cons_append, List.append_nil, Nat.zero_add, Nat.reduceAdd, List.map_cons, List.map_nil, List.set_cons_zero, List.set_cons_succ]
  refine AW.seq ?_
  refine AW.seq ?_
  refine AW.region ?_
  refine AL.rp rfl rfl (rp_move rfl rfl) ?_
  (refine AL.rp rfl rfl (rp_neqT rfl rfl rfl (by first | assumption | omega | (dsimp only; omega))) ?_)
  refine AL.nil ?_
  try simp only [thenS, S.put]
  refine AW.condT rfl ?_
  refine AW.seq ?_
  refine AW.region ?_
  refine AL.rp rfl rfl (rp_build (vs := []) (zs := [.d (.p (.int .i64 0)), .d (.p (.slice none 0 0))]) pl24 inf24 rfl rfl rfl rfl) ?_
  refine AL.rp rfl rfl (rp_move rfl rfl) ?_
  refine AL.st rfl (st_store_any inf24 rfl rfl rfl rfl rfl rfl rfl rfl (by first | decide | (simp; done) | (simp; omega)) rfl) ?_
  refine AL.rp rfl rfl (rp_assign rfl rfl) ?_
  refine AL.nil ?_
  try simp only [thenS, S.put, S.newObj, setL, V.cs, List.length_cons, List.length_nil, List.take_succ_cons, List.take_zero, List.drop_succ_cons, List.drop_zero, List.drop_nil, List.nil_append, List.cons_append, List.append_nil, Nat.zero_add, Nat.reduceAdd, List.map_cons, List.map_nil, List.set_cons_zero, List.set_cons_succ]
  refine AW.ret ?_
  exact ⟨[_, _], ⟨⟨2, 0, _, _, rfl, rfl, rfl, Try.underlying24, .inr ⟨rfl, _, _, _, _, inf24, rfl, rfl, rfl⟩⟩, rfl, trivial⟩, .inl ⟨h0, rfl⟩, by simp [tupOf, V.pure, V.has, V.hasL]⟩
end Go.Proofs.Ythlcginebeapdaa
