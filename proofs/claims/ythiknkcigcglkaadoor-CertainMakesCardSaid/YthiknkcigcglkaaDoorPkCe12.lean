/- Part 12 of what the law CertainMakes rests on. -/
import Derived.Test.YthiknkcigcglkaaDoorPkCe1
import Derived.Test.YthiknkcigcglkaaDoorPkCe2
import Derived.Test.YthiknkcigcglkaaDoorPkCe3
import Derived.Test.YthiknkcigcglkaaDoorPkCe4
import Derived.Test.YthiknkcigcglkaaDoorPkCe5
import Derived.Test.YthiknkcigcglkaaDoorPkCe6
import Derived.Test.YthiknkcigcglkaaDoorPkCe7
import Derived.Test.YthiknkcigcglkaaDoorPkCe8
import Derived.Test.YthiknkcigcglkaaDoorPkCe9
import Derived.Test.YthiknkcigcglkaaDoorPkCe10
import Derived.Test.YthiknkcigcglkaaDoorPkCe11
namespace Go.Proofs.YthiknkcigcglkaaDoor
open Go.RowKit
set_option linter.unusedSimpArgs false
set_option linter.unusedVariables false
set_option maxRecDepth 100000
set_option maxHeartbeats 8000000
abbrev ptsV (L : List (List Nat)) : List V := L.map fun d => V.d (ptsD (toP d))
theorem mpsL_ptsL (L : List (List Nat)) : V.mpsL (ptsV L) = false := by
 rw [V.mpsL_false]
 intro v hv
 obtain ⟨d, _, rfl⟩ := List.mem_map.1 hv
 simp [V.mps, D.mps, mpsR_pts]
theorem itsL_ptsL (L : List (List Nat)) : V.itsL (ptsV L) = false := by
 rw [V.itsL_false]
 intro v hv
 obtain ⟨d, _, rfl⟩ := List.mem_map.1 hv
 rfl
theorem noTxtQ (L : List ((Int × Int) × List (Int × Int))) : noTxt (mmr encQ L) = true := noTxt_mmr (fun _ => rfl) L
theorem upT_mmQ (r : Nat) (l : List (Value × Value)) (L : List ((Int × Int) × List (Int × Int))) : upT r l (.d (.mm (mmr encQ L))) = .d (.mm (mmr encQ L)) := upT_mm r l (noTxtQ L)
theorem upT_pts (r : Nat) (l : List (Value × Value)) (x : List (Nat × Nat)) : upT r l (.d (ptsD x)) = .d (ptsD x) := upT_sl r l (mpsR_pts x)
abbrev prD (p : Ar) : List D := [.p (.int .i64 p.i), .p (.int .i64 p.o)]
theorem upT_prs (r : Nat) (l : List (Value × Value)) (x : List Ar) : upT r l (.d (.sl 2 16 (x.map prD))) = .d (.sl 2 16 (x.map prD)) := upT_sl r l (mpsR_map _ (fun _ => rfl) x)
theorem upM_agg1p (r : Nat) (l : List (Value × Value)) (a : Value) : upM r l (.agg [.d (.p a)]) = .agg [.d (.p a)] := rfl
theorem upT_aggp1 (r : Nat) (l : List (Value × Value)) (a : Value) : upT r l (.agg [.d (.p a)]) = .agg [.d (.p a)] := rfl
theorem upT_tup2 (r : Nat) (l : List (Value × Value)) (x : V) (y : Value) (h : x.mps = false) : upT r l (.tup [x, .d (.p y)]) = .tup [x, .d (.p y)] := upT_tup r l (by simp [V.mpsL, V.mps, D.mps, h])
theorem rep_Q {w : World} {q : Nat → Prop} {g : Nat → Nat × Nat} (a b : Int) : VRep w q g (.agg [.i a, .i b]) (encQ (a, b)) :=
 .agg _ [.int .i64 a, .int .i64 b] rfl fun j u y hu hy => by
  match j, hu, hy with
  | 0, hu, hy => simp at hu hy; subst hu hy; exact .d _ _ (.p _)
  | 1, hu, hy => simp at hu hy; subst hu hy; exact .d _ _ (.p _)
  | n + 2, hu, hy => simp at hu
theorem enFp_over {f : Nat} (h1 : f ≠ big) (h2 : 1000000000 < f) : 1000000000 < enFp f := by unfold enFp; rw [if_neg h1]; omega
theorem enFp_none {f : Nat} (h : f = big) : enFp f = -1 ∧ ceTold f = 1000000001 := by unfold enFp ceTold; rw [if_pos h, if_pos h]; exact ⟨rfl, rfl⟩
theorem enFp_ok {f : Nat} (h : ¬ f = big) (h2 : ¬ 1000000000 < f) : 0 ≤ enFp f ∧ enFp f ≤ 1000000000 ∧ ceTold f = enFp f := by unfold enFp ceTold; rw [if_neg h, if_neg h]; omega
theorem am_Make0 (m : Mach) : FnP preT Tryd.prog 5 [mV m] (fun v => resE (ceE m) (ceM m) v) := by
 have hbits := am_Bits m
 by_cases h0 : machE m = 0
 ·rw [prV_ok h0, h0] at hbits
  cases hfl : bFl m.states with
  | false =>
   have hE : ceE m = 7 := by unfold ceE; rw [if_neg (by simp [h0]), if_pos hfl]
   rw [hE]
   rw [hfl] at hbits
   clear hE h0 hfl
   obtain ⟨st, sts⟩ := m
   refine FnP.intro (n := 156) ⟨Tryd.func5, rfl, rfl, rfl, rfl⟩ zT8 zT14 fun w0 out hpre => ?_
   apply AW.sr
   refine AL.sm rfl (sm_box 1 rfl rfl rfl rfl rfl) ?_
   refine AL.sm rfl (sm_alloc (l := [.d (.p (.int .i64 0)), .d (.p (.slice none 0 0))]) 2 inf24 rfl rfl rfl rfl) ?_
   refine AL.z ?_
   apply AL.nil
   try simp only [nd, setL, V.cs, nz, Nat.reduceAdd, nm, ns, enum]
   apply AW.sr
   refine AL.z ?_
   refine AL.call (post := ?pc0) rfl (sm_call (args := [_]) ?hc0 ⟨Tryd.func8, rfl, rfl, rfl, rfl⟩ rfl rfl rfl rfl) ?_
   case hc0 => exact hbits
   rintro _ rfl -
   try dsimp only
   iterate 3 refine AL.z ?_
   refine AL.sm rfl (sm_alloc (l := [.d (.p (.bool false)), .d (.p (.bool false)), .d (.p (.bool false)), .d (.p (.bool false)), .d (.p (.bool false))]) 4 inf35 rfl rfl rfl rfl) ?_
   refine AL.y ?_
   refine AL.z ?_
   apply AL.nil
   try simp only [nd, setL, V.cs, nz, Nat.reduceAdd, nm, ns]
   apply AW.seq
   apply AW.sr
   iterate 2 refine AL.z ?_
   apply AL.nil
   try simp only [nd]
   refine AW.condF rfl ?_
   apply AW.skip
   try simp only [thenS]
   apply AW.seq
   apply AW.sr
   iterate 3 refine AL.z ?_
   apply AL.nil
   try simp only [nd]
   refine AW.condT rfl ?_
   apply AW.sr
   refine AL.rp rfl rfl (rp_build (vs := []) (zs := [.d (.p (.int .i64 0)), .d (.p (.slice none 0 0))]) pl24 inf24 rfl rfl rfl rfl) ?_
   refine AL.y ?_
   refine AL.z ?_
   apply AL.nil
   try simp only [nd, setL, V.cs, nz, Nat.reduceAdd, nm, ns]
   apply AW.ret
   exact ⟨[_, _], ⟨⟨2, 0, _, _, rfl, rfl, rfl, Tryd.underlying24, .inr ⟨rfl, _, _, _, _, inf24, rfl, rfl, rfl⟩⟩, rfl, trivial⟩, .inl ⟨by decide, rfl⟩, by simp [tupOf, V.pure, V.has, V.hasL]⟩
  | true =>
   rw [hfl] at hbits
   by_cases hneg : m.start < 0
   ·obtain ⟨hE, hM⟩ := ceE_neg h0 hfl hneg
    rw [hE, hM]
    clear hE hM h0 hfl
    obtain ⟨st, sts⟩ := m
    simp only at hneg
    refine FnP.intro (n := 156) ⟨Tryd.func5, rfl, rfl, rfl, rfl⟩ zT8 zT14 fun w0 out hpre => ?_
    apply AW.sr
    refine AL.sm rfl (sm_box 1 rfl rfl rfl rfl rfl) ?_
    refine AL.sm rfl (sm_alloc (l := [.d (.p (.int .i64 0)), .d (.p (.slice none 0 0))]) 2 inf24 rfl rfl rfl rfl) ?_
    refine AL.z ?_
    apply AL.nil
    try simp only [nd, setL, V.cs, nz, Nat.reduceAdd, nm, ns, enum]
    apply AW.sr
    refine AL.z ?_
    refine AL.call (post := ?pc1) rfl (sm_call (args := [_]) ?hc1 ⟨Tryd.func8, rfl, rfl, rfl, rfl⟩ rfl rfl rfl rfl) ?_
    case hc1 => exact hbits
    rintro _ rfl -
    try dsimp only
    iterate 3 refine AL.z ?_
    refine AL.sm rfl (sm_alloc (l := [.d (.p (.bool false)), .d (.p (.bool false)), .d (.p (.bool false)), .d (.p (.bool false)), .d (.p (.bool false))]) 4 inf35 rfl rfl rfl rfl) ?_
    refine AL.y ?_
    refine AL.z ?_
    apply AL.nil
    try simp only [nd, setL, V.cs, nz, Nat.reduceAdd, nm, ns]
    apply AW.seq
    apply AW.sr
    iterate 2 refine AL.z ?_
    apply AL.nil
    try simp only [nd]
    refine AW.condF rfl ?_
    apply AW.skip
    try simp only [thenS]
    apply AW.seq
    apply AW.sr
    iterate 3 refine AL.z ?_
    apply AL.nil
    try simp only [nd]
    refine AW.condF rfl ?_
    apply AW.skip
    try simp only [thenS]
    apply AW.seq
    apply AW.sr
    iterate 3 refine AL.z ?_
    apply AL.nil
    try simp only [nd]
    refine AW.condT rfl ?_
    apply AW.sr
    refine AL.rp rfl rfl (rp_build (vs := [(0, _)]) (zs := [.d (.p (.int .i64 0)), .d (.p (.slice none 0 0))]) pl24 inf24 rfl rfl rfl rfl) ?_
    refine AL.y ?_
    refine AL.z ?_
    apply AL.nil
    try simp only [nd, setL, V.cs, nz, Nat.reduceAdd, nm, ns]
    apply AW.ret
    exact ⟨[_, _], ⟨⟨2, 0, _, _, rfl, rfl, rfl, Tryd.underlying24, .inr ⟨rfl, _, _, _, _, inf24, rfl, rfl, rfl⟩⟩, rfl, trivial⟩, .inr ⟨rfl, .inr ⟨rfl, rfl⟩⟩, by simp [tupOf, V.pure, V.has, V.hasL]⟩
   obtain ⟨e, P0, hrun⟩ : ∃ e P, ceRun m = (e, P) := ⟨_, _, rfl⟩
   obtain ⟨hE, hM⟩ := ceE_run h0 hfl hneg hrun
   rw [hE]
   obtain ⟨M, hMd⟩ : ∃ M, ceM m = M := ⟨_, rfl⟩
   rw [hMd] at hM ⊢
   obtain ⟨z60, z400, zst, zok⟩ := machE_zero h0
   have hx4 : ∀ x ∈ m.states, x.arcs.length ≤ 400 := fun x hx => Nat.le_trans (arc_le hx) z400
   clear hMd h0 hfl hE
   obtain ⟨st, sts⟩ := m
   simp only at hneg z60 z400 zst zok hx4
   obtain ⟨s, rfl⟩ := Int.eq_ofNat_of_zero_le (show 0 ≤ st by omega)
   obtain ⟨n, hn⟩ : ∃ n, sts.length = n := ⟨_, rfl⟩
   have hr0 : cerR sts 61 [ceOne n s] 0 [] = (e, P0) := by
    unfold ceRun at hrun
    simp only [Int.toNat_natCast] at hrun
    rw [hn] at hrun
    exact hrun
   clear hrun
   have hwok : ∀ x ∈ sts, ∀ a ∈ x.arcs, a.w ≤ 1000000000 := fun x hx a ha => by
    have h1 := (zok x hx).2 a ha
    simp only [arOk, decide_eq_true_eq] at h1
    omega
   have hwok2 : ∀ x ∈ sts, ∀ a ∈ x.arcs, 0 ≤ a.w ∧ a.w ≤ 1000000000 := fun x hx a ha => by
    have h1 := (zok x hx).2 a ha
    simp only [arOk, decide_eq_true_eq] at h1
    omega
   have hok := fun (d : List Nat) (hd : d.length = n) (hb : ∀ x ∈ d, x = big ∨ x ≤ 1000000000000) => toP_ok zT13 hd hb
   have hfin : ∀ d : List Nat, d.length = n → (∀ x ∈ d, x = big ∨ x ≤ 1000000000000) → Fn Tryd.prog 10 [.d (ptsD (toP d)), mV ⟨(s : Int), sts⟩] (fun v => v = .i (enFp (finD sts d n))) := by
    intro d hd hb
    have h1 := am_final (s : Int) sts (toP d) (by have := (hok d hd hb).1; omega) (by rw [hn]; exact (hok d hd hb).2) z60 fun x hx => (zok x hx).1
    rw [finP_toP (by rw [hd, hn]) hb fun x hx => (zok x hx).1, hd] at h1
    exact h1
   have hrea : ∀ d : List Nat, d.length = n → (∀ x ∈ d, x = big ∨ x ≤ 1000000000000) → Fn Tryd.prog 11 [.d (ptsD (toP d)), mV ⟨(s : Int), sts⟩] (fun v => v = .d (.mm (mmr encQ (rcP sts (toP d))))) := fun d hd hb => am_reached (s : Int) sts (toP d) (by have := (hok d hd hb).1; omega) (by rw [hn]; exact (hok d hd hb).2) z60 hx4 hwok2
   have hkey : ∀ d : List Nat, d.length = n → (∀ x ∈ d, x = big ∨ x ≤ 1000000000000) → FnP preT Tryd.prog 9 [.d (ptsD (toP d))] (fun v => v = .s (kyS (toP d))) := fun d hd hb => am_key (toP d) (by have := (hok d hd hb).1; omega) fun x hx => ((hok d hd hb).2 x hx).1
   have hlab : ∀ d : List Nat, d.length = n → (∀ x ∈ d, x = big ∨ x ≤ 1000000000000) → _ := fun d hd hb => rcP_labs (sts := sts) (by rw [hd, hn]) hb fun x hx => (zok x hx).2
   have hfnd : ∀ d : List Nat, d.length = n → (∀ x ∈ d, x = big ∨ x ≤ 1000000000000) → ∀ p : Ar, p ∈ prS sts d → _ := fun d hd hb p hp => rcP_find (sts := sts) (by rw [hd, hn]) hb (fun x hx => (zok x hx).2) hp
   rw [hn] at z60 zst zok
   have hsn : s < n := by omega
   have hone := toP_one hsn
   have hfl1 : (ceOne n s).length = n := by simp [ceOne]
   obtain ⟨D0, hD0⟩ : ∃ D0, ceOne n s = D0 := ⟨_, rfl⟩
   have hDb : ∀ x ∈ D0, x = big ∨ x ≤ 0 := fun x hx => by
    rw [← hD0] at hx
    unfold ceOne at hx
    rcases List.mem_or_eq_of_mem_set hx with hx | rfl
    ·exact .inl (List.eq_of_mem_replicate hx)
    exact .inr zT13
   rw [hD0] at hr0 hone hfl1
   have hB0 : ∀ (j : Nat) (d : List Nat), [D0][j]? = some d → ceB n (j * 1000000000) d := fun j d hj => by
    cases j with
    | succ j => simp at hj
    | zero =>
     simp at hj
     subst hj
     exact ⟨hfl1, fun x hx => by have := hDb x hx; omega⟩
   have hk0 := hkey D0 hfl1 fun x hx => (hDb x hx).imp_right fun h => by omega
   clear hD0 hDb
   refine FnP.intro (n := 156) ⟨Tryd.func5, rfl, rfl, rfl, rfl⟩ zT8 zT14 fun w0 out hpre => ?_
   apply AW.sr
   refine AL.sm rfl (sm_box 1 rfl rfl rfl rfl rfl) ?_
   refine AL.sm rfl (sm_alloc (l := [.d (.p (.int .i64 0)), .d (.p (.slice none 0 0))]) 2 inf24 rfl rfl rfl rfl) ?_
   refine AL.z ?_
   apply AL.nil
   try simp only [nd, setL, V.cs, nz, Nat.reduceAdd, nm, ns, enum]
   apply AW.sr
   refine AL.z ?_
   refine AL.call (post := ?pc2) rfl (sm_call (args := [_]) ?hc2 ⟨Tryd.func8, rfl, rfl, rfl, rfl⟩ rfl rfl rfl rfl) ?_
   case hc2 => exact hbits
   rintro _ rfl -
   try dsimp only
   iterate 3 refine AL.z ?_
   refine AL.sm rfl (sm_alloc (l := [.d (.p (.bool false)), .d (.p (.bool false)), .d (.p (.bool false)), .d (.p (.bool false)), .d (.p (.bool false))]) 4 inf35 rfl rfl rfl rfl) ?_
   refine AL.y ?_
   refine AL.z ?_
   apply AL.nil
   try simp only [nd, setL, V.cs, nz, Nat.reduceAdd, nm, ns]
   apply AW.seq
   apply AW.sr
   iterate 2 refine AL.z ?_
   apply AL.nil
   try simp only [nd]
   refine AW.condF rfl ?_
   apply AW.skip
   try simp only [thenS]
   apply AW.seq
   apply AW.sr
   iterate 3 refine AL.z ?_
   apply AL.nil
   try simp only [nd]
   refine AW.condF rfl ?_
   apply AW.skip
   try simp only [thenS]
   apply AW.seq
   apply AW.sr
   iterate 3 refine AL.z ?_
   apply AL.nil
   try simp only [nd]
   refine AW.condF rfl ?_
   apply AW.skip
   try simp only [thenS]
   apply AW.sr
   iterate 2 refine AL.z ?_
   refine AL.rp rfl rfl (rp_build (vs := [(0, _), (1, _)]) (zs := [.d (.p (.int .i64 0)), .d (.p (.int .i64 0))]) pl39 inf39 rfl rfl rfl rfl) ?_
   refine AL.sm rfl (sm_slice (vs := [(0, _)]) (zs := [.d (.p (.int .i64 0)), .d (.p (.int .i64 0))]) 42 Tryd.underlying41 inf39 rfl rfl zT12 zT12 zT12 rfl rfl rfl rfl rfl rfl rfl) ?_
   refine AL.z ?_
   apply AL.nil
   try simp only [nd, setL, V.cs, nz, Nat.reduceAdd, nm, ns]
   apply AW.seq
   refine AW.freeze 6 16 ([(s, 0)].map ptD) rfl rfl rfl rfl zT13 (rowsF (enc := ptD) (sz := 2) (l := [(s, 0)]) (fun _ => rfl) rfl) ?_
   rw [← hone]
   refine AW.less (s' := ⟨156, [(1, .ref 1 0), (2, .ref 2 0), (6, .d (ptsD (toP D0)))], [(1, ⟨24, [.i (s : Int), .d (stsD sts)], false, 0⟩), (2, ⟨24, [.i 0, .nil], false, 0⟩)], []⟩) Less.a0 ?_
   apply AW.region
   refine AL.sm rfl (sm_makeMap 43 rfl rfl rfl) ?_
   refine AL.z ?_
   refine AL.call (post := ?pc3) rfl (sm_callP (args := [_]) (tab_kept _ _ _ _) zT11 ?hc3 ⟨Tryd.func9, rfl, rfl, rfl, rfl⟩ rfl rfl rfl rfl) ?_
   case hc3 => exact hk0
   rintro _ rfl -
   try dsimp only
   refine AL.rp rfl rfl (rp_build (vs := [(0, _)]) (zs := [.d (.p (.int .i64 0))]) pl43 inf43 rfl rfl rfl rfl) ?_
   refine AL.st rfl (st_insertS Tryd.underlying9 Tryd.underlying44 rfl rfl rfl rfl rfl rfl (by simp [S.put, S.newObj, setL, V.cs, V.mpsL, V.mps, D.mps, D.mpsL, D.mpsR, mpsR_ars, mpsR_sts, V.one, mpsL_stV2, upT_prs, upM_agg1p, mpsL_arV2, mpsL_eV2, mpsL_ptsL, mpsR_pts, itsL_arV2, itsL_stV2, itsL_eV2, itsL_ptsL]) rfl) ?_
   simp only [List.take_succ_cons, List.take_zero, List.drop_succ_cons, List.drop_zero, List.length_cons, List.length_nil, Nat.zero_add, Nat.reduceAdd, List.cons_append, List.nil_append, S.put, List.map_cons, List.map_nil, upM_p, upM_ref, upM_own, upM_mp, upM_junk, upM_tup, upM_sl, V.mpsL, V.mps, D.mps, D.mpsL, Bool.or_false, Bool.or_self,  mpsR_ars, mpsR_sts, mpsL_stV2, upT_prs, upM_agg1p, mpsL_arV2, mpsL_eV2, mpsL_ptsL, mpsR_pts, itsL_arV2, itsL_stV2, itsL_eV2, itsL_ptsL]
   iterate 2 refine AL.z ?_
   apply AL.nil
   try simp only [nd, setL, V.cs, nz, Nat.reduceAdd, nm, ns]
   apply AW.seq
   refine AW.less (s' := ⟨156, [(1, .ref 1 0), (2, .ref 2 0), (6, .d (ptsD (toP D0))), (7, .mp 43 w0.heap.size (vrows [(kyS (toP D0), 0)]))], [(1, ⟨24, [.i (s : Int), .d (stsD sts)], false, 0⟩), (2, ⟨24, [.i 0, .nil], false, 0⟩)], []⟩) Less.a0 ?_
   apply AW.region
   refine AL.z ?_
   refine AL.sm rfl (sm_slice (vs := [(0, _)]) (zs := [.d (.p (.slice none 0 0))]) 49 Tryd.underlying45 inf41 rfl rfl zT12 zT12 zT12 rfl rfl rfl rfl rfl rfl rfl) ?_
   refine AL.z ?_
   apply AL.nil
   try simp only [nd, setL, V.cs, nz, Nat.reduceAdd, nm, ns]
   apply AW.sr
   refine AL.sm rfl (sm_alloc (l := [.d (.p (.int .i64 0)), .d (.p (.slice none 0 0))]) 9 inf24 rfl rfl rfl rfl) ?_
   apply AL.nil
   try simp only [nd, setL, V.cs, nz, Nat.reduceAdd, nm, ns]
   apply AW.seq
   refine AW.adoptH 9 1 902 2 33 rfl rfl rfl zT2 ?_
   apply AW.region
   refine AL.z ?_
   apply AL.nil
   try simp only [nd]
   apply AW.seq
   apply AW.block
   clear hk0 hone hbits
   refine AW.loopN (fun μ s' => ∃ (L : List (List Nat)) (a : Nat) (P : List St), 61 - P.length ≤ μ ∧ cerR sts (61 - P.length) L a P = (e, P0) ∧ L.Nodup ∧ (∀ (j : Nat) (d : List Nat), L[j]? = some d → ceB n (j * 1000000000) d) ∧ P.length ≤ L.length ∧ L.length ≤ 60 ∧ a ≤ 400 ∧ s' = ⟨156, [(1, .ref 1 0), (2, .ref 2 0), (7, .mp 43 w0.heap.size (vrows (numK L))), (8, .own 49 1 L.length false), (9, .ref 9 0), (10, .i a)], [(1, ⟨24, [.i (s : Int), .d (stsD sts)], false, 0⟩), (2, ⟨24, [.i 0, .nil], false, 0⟩), (49, ⟨41, ptsV L, false, 1⟩), (9, ⟨24, [.i 0, .own 902 2 P.length (decide (P.length = 0))], false, 0⟩), (902, ⟨33, P.flatMap stV2, decide (P.length = 0), 2⟩)], []⟩) ⟨61, _, ?_, [D0], 0, [], by simp, by simpa using hr0, by simp, hB0, by simp, by simp, by omega, rfl⟩ ?_
   ·rw [numK_one]
    exact Less.a0
   clear hB0 hr0 hfl1
   rintro μ s' ⟨L, a, P, hμ, hcer, hnd, hBd, hPl, hl60, ha4, rfl⟩
   obtain ⟨q, hPk⟩ : ∃ q, P.length = q := ⟨_, rfl⟩
   obtain ⟨lt, hlt⟩ : ∃ lt, L.length = lt := ⟨_, rfl⟩
   have hflP : (P.flatMap stV2).length = q * 2 := by rw [flat_len (sz := 2) (fun _ => rfl), hPk]
   rw [hPk, hlt] at hPl
   rw [hlt] at hl60
   rw [hPk] at hμ hcer
   simp only [hPk, hlt]
   by_cases hql : q < lt
   ·obtain ⟨d, hd⟩ := get_lt hlt hql
    obtain ⟨hdl, hdB⟩ := hBd q d hd
    have hdb : ∀ x ∈ d, x = big ∨ x ≤ 1000000000000 := fun x hx => (hdB x hx).imp_right fun h => by omega
    rw [show 61 - q = (60 - q) + 1 by omega, cerR_at (by rw [hPk]; exact hd), hdl] at hcer
    have hf1 := hfin d hdl hdb
    have hrc := hrea d hdl hdb
    obtain ⟨ks, hks, hsrt, hkl⟩ := hlab d hdl hdb
    have hfd := hfnd d hdl hdb
    rw [hdl] at hfd
    have hp4 : (prS sts d).length ≤ 400 := Nat.le_trans (prS_len sts d) z400
    obtain ⟨fv, hfv⟩ : ∃ fv, finD sts d n = fv := ⟨_, rfl⟩
    rw [hfv] at hf1 hcer
    obtain ⟨F, hF⟩ : ∃ F, enFp fv = F := ⟨_, rfl⟩
    rw [hF] at hf1
    have hXB := fun p : Ar => bhD_bound (i := p.i) (o := p.o) ⟨hdl, hdB⟩ hwok
    have hXe : ∀ p : Ar, bhD sts d p.i p.o = nxL sts d p := fun _ => rfl
    simp only [hXe] at hXB
    clear hfin hrea hlab hfnd hXe hfv
    by_cases hov : fv ≠ big ∧ 1000000000 < fv
    ·rw [if_pos hov] at hcer
     obtain ⟨rfl, _⟩ := Prod.mk.inj hcer
     have hF1 := enFp_over hov.1 hov.2
     rw [hF] at hF1
     apply AW.seq
     apply AW.sr
     iterate 6 refine AL.z ?_
     apply AL.nil
     try simp only [nd]
     refine AW.condT rfl ?_
     apply AW.skip
     try simp only [thenS]
     apply AW.block
     apply AW.sr
     iterate 7 refine AL.z ?_
     apply AL.nil
     try simp only [nd]
     apply AW.sr
     iterate 2 refine AL.z ?_
     refine AL.call (post := ?pc4) rfl (sm_call (args := [_, _]) ?hc4 ⟨Tryd.func10, rfl, rfl, rfl, rfl⟩ rfl rfl rfl rfl) ?_
     case hc4 => exact hf1
     rintro _ rfl -
     try dsimp only
     refine AL.rp rfl rfl (rp_build (vs := [(0, _)]) (zs := [.d (.p (.int .i64 0)), .d (.p (.slice none 0 0))]) pl33 inf33 rfl rfl rfl rfl) ?_
     refine AL.sm rfl (sm_alloc (l := [.d (.p (.int .i64 0)), .d (.p (.slice none 0 0))]) 12 inf33 rfl zT1 rfl rfl) ?_
     refine AL.y ?_
     apply AL.nil
     try simp only [nd, setL, V.cs, nz, Nat.reduceAdd, nm, ns]
     apply AW.seq
     apply AW.sr
     iterate 3 refine AL.z ?_
     apply AL.nil
     try simp only [nd]
     refine AW.condT rfl ?_
     apply AW.sr
     refine AL.rp rfl rfl (rp_build (vs := []) (zs := [.d (.p (.int .i64 0)), .d (.p (.slice none 0 0))]) pl24 inf24 rfl rfl rfl rfl) ?_
     refine AL.y ?_
     refine AL.z ?_
     apply AL.nil
     try simp only [nd, setL, V.cs, nz, Nat.reduceAdd, nm, ns]
     apply AW.ret
     exact ⟨[_, _], ⟨⟨2, 0, _, _, rfl, rfl, rfl, Tryd.underlying24, .inr ⟨rfl, _, _, _, _, inf24, rfl, rfl, rfl⟩⟩, rfl, trivial⟩, .inl ⟨by decide, rfl⟩, by simp [tupOf, V.pure, V.has, V.hasL]⟩
    rw [if_neg hov] at hcer
    obtain ⟨ft, hft⟩ : ∃ ft, ceTold fv = ft := ⟨_, rfl⟩
    rw [hft] at hcer
    have hF1 : ¬ 1000000000 < F := by
     by_cases hb : fv = big
     ·have := (enFp_none hb).1
      omega
     have := enFp_ok hb (fun h => hov ⟨hb, h⟩)
     omega
    apply AW.seq
    apply AW.sr
    iterate 6 refine AL.z ?_
    apply AL.nil
    try simp only [nd]
    refine AW.condT rfl ?_
    apply AW.skip
    try simp only [thenS]
    apply AW.block
    apply AW.sr
    iterate 7 refine AL.z ?_
    apply AL.nil
    try simp only [nd]
    apply AW.sr
    iterate 2 refine AL.z ?_
    refine AL.call (post := ?pc5) rfl (sm_call (args := [_, _]) ?hc5 ⟨Tryd.func10, rfl, rfl, rfl, rfl⟩ rfl rfl rfl rfl) ?_
    case hc5 => exact hf1
    rintro _ rfl -
    try dsimp only
    refine AL.rp rfl rfl (rp_build (vs := [(0, _)]) (zs := [.d (.p (.int .i64 0)), .d (.p (.slice none 0 0))]) pl33 inf33 rfl rfl rfl rfl) ?_
    refine AL.sm rfl (sm_alloc (l := [.d (.p (.int .i64 0)), .d (.p (.slice none 0 0))]) 12 inf33 rfl zT1 rfl rfl) ?_
    refine AL.y ?_
    apply AL.nil
    try simp only [nd, setL, V.cs, nz, Nat.reduceAdd, nm, ns]
    apply AW.seq
    apply AW.sr
    iterate 3 refine AL.z ?_
    apply AL.nil
    try simp only [nd]
    refine AW.condF rfl ?_
    apply AW.skip
    try simp only [thenS]
    refine AW.seqc (fun s' => s' = ⟨156, [(1, .ref 1 0), (2, .ref 2 0), (7, .mp 43 w0.heap.size (vrows (numK L))), (8, .own 49 1 lt false), (9, .ref 9 0), (10, .i a), (11, .d (ptsD (toP d))), (12, .ref 12 0)], [(1, ⟨24, [.i (s : Int), .d (stsD sts)], false, 0⟩), (2, ⟨24, [.i 0, .nil], false, 0⟩), (49, ⟨41, ptsV L, false, 1⟩), (9, ⟨24, [.i 0, .own 902 2 q (decide (q = 0))], false, 0⟩), (902, ⟨33, P.flatMap stV2, decide (q = 0), 2⟩), (12, ⟨33, [.i ft, .nil], false, 0⟩)], []⟩) ?_ ?_
    ·skip
     by_cases hb : fv = big
     ·obtain ⟨e1, e2⟩ := enFp_none hb
      obtain rfl : F = -1 := by omega
      obtain rfl : ft = 1000000001 := by omega
      apply AW.sr
      iterate 3 refine AL.z ?_
      apply AL.nil
      try simp only [nd]
      refine AW.condT rfl ?_
      apply AW.region
      refine AL.z ?_
      (refine AL.st rfl (st_store inf3 rfl rfl rfl rfl rfl rfl rfl zT7 rfl) ?_)
      apply AL.nil
      try simp only [nd, setL, V.cs, nz, Nat.reduceAdd, nm, ns]
      refine ⟨_, ?_, rfl⟩
      exact Less.a0
     obtain ⟨e1, e2, e3⟩ := enFp_ok hb (fun h => hov ⟨hb, h⟩)
     have e4 : ft = F := by omega
     rw [e4]
     have hF0 : ¬ F < 0 := by omega
     apply AW.sr
     iterate 3 refine AL.z ?_
     apply AL.nil
     try simp only [nd]
     refine AW.condF rfl ?_
     apply AW.skip
     try simp only [thenS]
     refine ⟨_, ?_, rfl⟩
     exact Less.a0
    rintro s' rfl
    obtain ⟨RC, hRC⟩ : ∃ RC, rcP sts (toP d) = RC := ⟨_, rfl⟩
    rw [hRC] at hrc hks hfd
    clear hF hov hft hF1 hf1 hRC
    obtain ⟨nk, hnk⟩ : ∃ nk, ks.length = nk := ⟨_, rfl⟩
    rw [hnk] at hkl
    apply AW.sr
    iterate 2 refine AL.z ?_
    refine AL.call (post := ?pc6) rfl (sm_call (args := [_, _]) ?hc6 ⟨Tryd.func11, rfl, rfl, rfl, rfl⟩ rfl rfl rfl rfl) ?_
    case hc6 => exact hrc
    rintro _ rfl -
    try dsimp only
    refine AL.z ?_
    apply AL.nil
    try simp only [nd, setL, V.cs, nz, Nat.reduceAdd, nm, ns]
    apply AW.sr
    refine AL.z ?_
    apply AL.nil
    try simp only [nd]
    apply AW.seq
    apply AW.seq
    refine AW.adopt 14 903 2 51 rfl zT2 ?_
    refine AW.adoptH 12 1 904 4 60 rfl rfl rfl zT2 ?_
    apply AW.region
    refine AL.z ?_
    refine AL.rangeMM 78 578 rfl Tryd.underlying47 rfl rfl zT1 zT1 zT12 rfl fun l' hl' => ?_
    apply AL.nil
    try simp only [nd]
    apply AW.block
    have hl2 : l'.map (·.1) = ks.map fun x => encQ (eL x) := by
     rw [hl', List.map_map]
     have := congrArg (List.map encQ) hks
     rw [List.map_map, List.map_map] at this
     exact this
    have hl3 : l'.length = nk := by
     have := congrArg List.length hl2
     rw [List.length_map, List.length_map] at this
     omega
    clear hl' hks
    refine AW.loopN (fun μ s' => ∃ (seen : List Nat) (A : List Lab2) (la : Nat), μ + la = nk ∧ seen.length = la ∧ seen.Nodup ∧ (∀ j ∈ seen, j < nk) ∧ A = (seen.map fun j => id (ks.getD j default)) ∧ A.length = la ∧ s' = ⟨156, [(1, .ref 1 0), (2, .ref 2 0), (7, .mp 43 w0.heap.size (vrows (numK L))), (8, .own 49 1 lt false), (9, .ref 9 0), (10, .i a), (12, .ref 12 0), (13, .d (.mm (mmr encQ RC))), (14, .own 903 2 la (decide (la = 0))), (78, .mit 78 578 w0.heap.size l' seen)], [(1, ⟨24, [.i (s : Int), .d (stsD sts)], false, 0⟩), (2, ⟨24, [.i 0, .nil], false, 0⟩), (49, ⟨41, ptsV L, false, 1⟩), (9, ⟨24, [.i 0, .own 902 2 q (decide (q = 0))], false, 0⟩), (902, ⟨33, P.flatMap stV2, decide (q = 0), 2⟩), (12, ⟨33, [.i ft, .own 904 4 0 true], false, 0⟩), (904, ⟨60, [], true, 4⟩), (903, ⟨51, A.flatMap (eV2 eL), decide (la = 0), 2⟩)], []⟩) ⟨nk, _, ?_, [], [], 0, rfl, rfl, List.nodup_nil, zT14, rfl, rfl, rfl⟩ ?_
    ·exact Less.a0
    rintro μ2 s' ⟨seen, A, la, hμ2, hsl, hsn2, hsj, hA, hAl, rfl⟩
    have hflA : (A.flatMap (eV2 eL)).length = la * 2 := by rw [enc2_len, hAl]
    by_cases hall : ∀ j, j < l'.length → j ∈ seen
    ·have hAp : A.Perm ks := by
      rw [hA]
      have := seen_map id default ks hsn2 (by rw [hnk]; exact hsj) fun j hj => hall j zT13
      rwa [List.map_id] at this
     obtain rfl : la = nk := by
      have := hAp.length_eq
      omega
     have hK := hsrt A hAp
     have hrows : ((leL A).map fun x => [D.p (.int .i64 (x.i : Int)), D.p (.int .i64 (x.o : Int))]) = (prS sts d).map prD := by
      have := congrArg (List.map fun k : Int × Int => [D.p (.int .i64 k.1), D.p (.int .i64 k.2)]) hK
      rw [List.map_map, List.map_map] at this
      exact this
     have hLl : (leL A).length = la := by rw [(leL_perm A).length_eq, hAl]
     obtain ⟨PR, hPR⟩ : ∃ PR, prS sts d = PR := ⟨_, rfl⟩
     rw [hPR] at hcer hfd hrows hkl hp4
     have hlp : PR.length = la := hkl.symm
     rw [hlp] at hp4
     have hrun0 : cerA sts d (PR.drop 0) L a [] = cerA sts d PR L a [] := by rw [List.drop_zero]
     clear hsrt hK hPR hA hsj hsn2 hμ2 hl2 hAp
     apply AW.sr
     refine AL.rd rfl rfl (rd_nextEndM rfl rfl zT11) ?_
     refine AL.z ?_
     apply AL.nil
     try simp only [nd]
     apply AW.seq
     refine AW.condF rfl ?_
     refine AW.exit ?_
     try simp only [thenS, inBlockS, ↓reduceIte, Nat.reduceEqDiff]
     apply AW.sr
     refine AL.z ?_
     refine AL.st rfl (st_sort2A ⟨Tryd.func12, rfl, rfl, rfl, rfl⟩ srtPair sortPair_none rfl rfl rfl rfl hAl zT13 rfl) ?_
     try dsimp only
     apply AL.nil
     try simp only [nd, setL, V.cs, nz, Nat.reduceAdd, nm, ns]
     apply AW.seq
     apply AW.seq
     refine AW.freeze 14 16 ((leL A).map fun x => [D.p (.int .i64 (x.i : Int)), D.p (.int .i64 (x.o : Int))]) rfl rfl rfl (by rw [List.length_map, hLl]) zT13 (rowsF (enc := fun x : Lab2 => [D.p (.int .i64 (x.i : Int)), D.p (.int .i64 (x.o : Int))]) (sz := 2) (l := leL A) (fun _ => rfl) rfl) ?_
     rw [hrows]
     apply AW.region
     iterate 3 refine AL.z ?_
     apply AL.nil
     try simp only [nd]
     apply AW.block
     clear hrows hLl hall hl3 hsl hflA hkl
     refine AW.loop (fun s' => ∃ (i : Nat) (L' : List (List Nat)) (a' : Nat) (o : List Ar), i ≤ la ∧ cerA sts d (PR.drop i) L' a' o = cerA sts d PR L a [] ∧ L'.Nodup ∧ (∀ (j' : Nat) (d : List Nat), L'[j']? = some d → ceB n (j' * 1000000000) d) ∧ q < L'.length ∧ L'.length ≤ 60 ∧ a' ≤ 400 ∧ o.length ≤ a' ∧ s' = ⟨156, [(1, .ref 1 0), (2, .ref 2 0), (7, .mp 43 w0.heap.size (vrows (numK L'))), (8, .own 49 1 L'.length false), (9, .ref 9 0), (10, .i a'), (12, .ref 12 0), (13, .d (.mm (mmr encQ RC))), (89, .d (.sl 2 16 (PR.map prD))), (90, .i la), (91, .i i)], [(1, ⟨24, [.i (s : Int), .d (stsD sts)], false, 0⟩), (2, ⟨24, [.i 0, .nil], false, 0⟩), (49, ⟨41, ptsV L', false, 1⟩), (9, ⟨24, [.i 0, .own 902 2 q (decide (q = 0))], false, 0⟩), (902, ⟨33, P.flatMap stV2, decide (q = 0), 2⟩), (12, ⟨33, [.i ft, .own 904 4 o.length (decide (o.length = 0))], false, 0⟩), (904, ⟨60, o.flatMap arV2, decide (o.length = 0), 4⟩)], []⟩) (fun s' => la - s'.nat 91) ⟨_, ?_, 0, L, a, [], by omega, hrun0, hnd, hBd, by omega, by omega, ha4, by simp, rfl⟩ ?_
     ·rw [hlt]; exact Less.a0
     clear hrun0 hnd hBd
     rintro s' ⟨i, L', a', o, hi, hrun, hnd, hBd, hql', hl60', ha4', hoa, rfl⟩
     obtain ⟨lt', hlt'⟩ : ∃ lt, L'.length = lt := ⟨_, rfl⟩
     obtain ⟨no, hno⟩ : ∃ no, o.length = no := ⟨_, rfl⟩
     have hflo : (o.flatMap arV2).length = no * 4 := by rw [flat_len (sz := 4) (fun _ => rfl), hno]
     have hflL : (ptsV L').length = lt' * 1 := by rw [List.length_map, hlt', Nat.mul_one]
     rw [hlt'] at hql' hl60'
     rw [hno] at hoa
     simp only [hlt', hno]
     by_cases hil : i < la
     ·obtain ⟨p, hp⟩ := get_lt hlp hil
      rw [cerA_at hp] at hrun
      obtain ⟨jj, lj, hkf, hI⟩ := hfd p (List.mem_of_getElem? hp)
      have hst := am_settle lj (nxL sts d p) n z60 hI
      have hXB1 := hXB p
      obtain ⟨X, hX⟩ : ∃ X, nxL sts d p = X := ⟨_, rfl⟩
      rw [hX] at hst hXB1 hrun
      obtain ⟨pi, po, pw, pt⟩ := p
      simp only at hkf hrun
      obtain ⟨w, hw⟩ : ∃ w, mnL X = w := ⟨_, rfl⟩
      rw [hw] at hst hrun
      obtain ⟨hZl, hZB⟩ := sbL_bound (w := w) hXB1
      generalize sbL X w = Z at hst hrun hZl hZB
      have hkz := hkey Z hZl fun x hx => (hZB x hx).imp_right fun h => by omega
      clear hX hI hXB1 hw
      by_cases hw9 : 1000000000 < w
      ·rw [if_pos hw9] at hrun
       rw [← hrun] at hcer
       simp only at hcer
       rw [if_pos zT12] at hcer
       obtain ⟨rfl, _⟩ := Prod.mk.inj hcer
       clear hrun
       have hw9' : (w : Int) > 1000000000 := by omega
       apply AW.sr
       refine AL.z ?_
       apply AL.nil
       try simp only [nd]
       apply AW.seq
       refine AW.condT rfl ?_
       apply AW.skip
       try simp only [thenS]
       apply AW.seq
       apply AW.block
       apply AW.sr
       iterate 2 refine AL.z ?_
       refine AL.sm rfl (sm_alloc (l := [.d (.p (.int .i64 0)), .d (.p (.int .i64 0))]) 17 inf51 rfl zT1 rfl rfl) ?_
       refine AL.y ?_
       apply AL.nil
       try simp only [nd, setL, V.cs, nz, Nat.reduceAdd, nm, ns]
       apply AW.sr
       iterate 2 refine AL.z ?_
       refine AL.rd rfl rfl (rd_lookupMMD keyG51 Tryd.underlying47 inf57 rfl rfl (fun g a w hs => keyE51 (hs.ev rfl)) zT11) ?_
       refine AL.call (post := ?pc7) rfl (sm_call (args := [_]) ?hc7 ⟨Tryd.func15, rfl, rfl, rfl, rfl⟩ rfl rfl rfl rfl) ?_
       case hc7 => exact hst
       rintro _ rfl -
       try dsimp only
       iterate 5 refine AL.z ?_
       apply AL.nil
       try simp only [nd, setL, V.cs, nz, Nat.reduceAdd, nm, ns]
       apply AW.seq
       apply AW.sr
       iterate 2 refine AL.z ?_
       apply AL.nil
       try simp only [nd]
       refine AW.condT rfl ?_
       apply AW.sr
       refine AL.rp rfl rfl (rp_build (vs := []) (zs := [.d (.p (.int .i64 0)), .d (.p (.slice none 0 0))]) pl24 inf24 rfl rfl rfl rfl) ?_
       refine AL.y ?_
       refine AL.z ?_
       apply AL.nil
       try simp only [nd, setL, V.cs, nz, Nat.reduceAdd, nm, ns]
       apply AW.ret
       exact ⟨[_, _], ⟨⟨2, 0, _, _, rfl, rfl, rfl, Tryd.underlying24, .inr ⟨rfl, _, _, _, _, inf24, rfl, rfl, rfl⟩⟩, rfl, trivial⟩, .inl ⟨by decide, rfl⟩, by simp [tupOf, V.pure, V.has, V.hasL]⟩
      rw [if_neg hw9] at hrun
      have hw9' : ¬ (w : Int) > 1000000000 := by omega
      have hmg := numK_get hZl (L := L') fun x hx => by
       obtain ⟨j, hj⟩ := List.getElem?_of_mem hx
       exact (hBd j x hj).1
      rw [hlt'] at hmg
      by_cases hix : lIx L' Z = lt'
      ·rw [if_pos hix] at hmg
       have had : lAd L' Z = L' ++ [Z] := by unfold lAd; rw [if_pos (by rw [hlt']; exact hix)]
       rw [had, hix, List.length_append, hlt'] at hrun
       simp only [List.length_cons, List.length_nil, Nat.zero_add] at hrun
       have hnd2 : (L' ++ [Z]).Nodup := had ▸ lAd_nodup hnd
       have hne : numK L' ≠ [] := numK_ne (by rintro rfl; simp at hlt'; omega)
       apply AW.sr
       refine AL.z ?_
       apply AL.nil
       try simp only [nd]
       apply AW.seq
       refine AW.condT rfl ?_
       apply AW.skip
       try simp only [thenS]
       apply AW.seq
       apply AW.block
       apply AW.sr
       iterate 2 refine AL.z ?_
       refine AL.sm rfl (sm_alloc (l := [.d (.p (.int .i64 0)), .d (.p (.int .i64 0))]) 17 inf51 rfl zT1 rfl rfl) ?_
       refine AL.y ?_
       apply AL.nil
       try simp only [nd, setL, V.cs, nz, Nat.reduceAdd, nm, ns]
       apply AW.sr
       iterate 2 refine AL.z ?_
       refine AL.rd rfl rfl (rd_lookupMMD keyG51 Tryd.underlying47 inf57 rfl rfl (fun g a w hs => keyE51 (hs.ev rfl)) zT11) ?_
       refine AL.call (post := ?pc8) rfl (sm_call (args := [_]) ?hc8 ⟨Tryd.func15, rfl, rfl, rfl, rfl⟩ rfl rfl rfl rfl) ?_
       case hc8 => exact hst
       rintro _ rfl -
       try dsimp only
       iterate 5 refine AL.z ?_
       apply AL.nil
       try simp only [nd, setL, V.cs, nz, Nat.reduceAdd, nm, ns]
       apply AW.seq
       apply AW.sr
       iterate 2 refine AL.z ?_
       apply AL.nil
       try simp only [nd]
       refine AW.condF rfl ?_
       apply AW.skip
       try simp only [thenS]
       apply AW.sr
       iterate 2 refine AL.z ?_
       refine AL.call (post := ?pc9) rfl (sm_callP (args := [_]) (tab_kept _ _ _ _) zT11 ?hc9 ⟨Tryd.func9, rfl, rfl, rfl, rfl⟩ rfl rfl rfl rfl) ?_
       case hc9 => exact hkz
       rintro _ rfl -
       try dsimp only
       refine AL.rd rfl rfl (rd_lookupS_miss Tryd.underlying9 Tryd.underlying44 inf43 rfl rfl rfl zT11) ?_
       iterate 3 refine AL.z ?_
       refine AL.sm rfl (sm_alloc (l := [.d (.p (.int .i64 0))]) 20 inf43 rfl zT1 rfl rfl) ?_
       refine AL.y ?_
       refine AL.z ?_
       apply AL.nil
       try simp only [nd, setL, V.cs, nz, Nat.reduceAdd, nm, ns]
       apply AW.seq
       apply AW.sr
       iterate 2 refine AL.z ?_
       apply AL.nil
       try simp only [nd]
       refine AW.condT rfl ?_
       apply AW.seq
       refine AW.less (s' := ⟨156, [(1, .ref 1 0), (2, .ref 2 0), (7, .mp 43 w0.heap.size (vrows (numK L'))), (8, .own 49 1 lt' false), (9, .ref 9 0), (10, .i a'), (12, .ref 12 0), (13, .d (.mm (mmr encQ RC))), (17, .ref 17 0), (18, .i (w : Int)), (19, .d (ptsD (toP Z))), (20, .ref 20 0), (89, .d (.sl 2 16 (PR.map prD))), (90, .i la), (91, .i i)], [(1, ⟨24, [.i (s : Int), .d (stsD sts)], false, 0⟩), (2, ⟨24, [.i 0, .nil], false, 0⟩), (49, ⟨41, ptsV L', false, 1⟩), (9, ⟨24, [.i 0, .own 902 2 q (decide (q = 0))], false, 0⟩), (902, ⟨33, P.flatMap stV2, decide (q = 0), 2⟩), (12, ⟨33, [.i ft, .own 904 4 no (decide (no = 0))], false, 0⟩), (904, ⟨60, o.flatMap arV2, decide (no = 0), 4⟩), (17, ⟨51, [.i pi, .i po], false, 0⟩), (20, ⟨43, [.i 0], false, 0⟩)], []⟩) Less.a0 ?_
       apply AW.region
       iterate 3 refine AL.z ?_
       (refine AL.st rfl (st_store inf3 rfl rfl rfl rfl rfl rfl rfl zT7 rfl) ?_)
       apply AL.nil
       try simp only [nd, setL, V.cs, nz, Nat.reduceAdd, nm, ns]
       apply AW.seq
       refine AW.drawF [(0, 2), (1, 2), (3, 1), (2, 0), (4, 0)] (fun i => !([4] : List Nat).contains i) 5 zT10 zT10 rfl zT10 ?_
       refine AF1.rp rfl rfl rfl (fun _ _ h => h) (rp_move rfl rfl) ?_
       refine AF1.rp rfl rfl rfl (fun _ _ h => h) (rp_move rfl rfl) ?_
       refine AF1.rd rfl rfl rfl (fun _ _ h => h) (rd_loads_ref Tryd.underlying43 rfl inf43 rfl rfl rfl rfl rfl rfl) ?_
       refine AF1.go ?_
       refine AF2.call (post := ?pc10) rfl rfl (sm_callP (args := [_]) (tab_kept _ _ _ _) zT11 ?hc10 ⟨Tryd.func9, rfl, rfl, rfl, rfl⟩ rfl rfl rfl rfl) ?_
       case hc10 => exact hkz
       rintro _ rfl -
       try dsimp only
       refine AF2.go ?_
       refine AF3.st rfl rfl rfl (st_mapUpdateT Tryd.underlying9 Tryd.underlying44 rfl rfl rfl rfl rfl zT11 zT11 rfl (by simp [S.put, S.newObj, setL, V.cs, V.mpsL, V.mps, D.mps, D.mpsL, D.mpsR, mpsR_ars, mpsR_sts, mpsL_stV2, upT_prs, upM_agg1p, mpsL_arV2, mpsL_eV2, mpsL_ptsL, mpsR_pts, itsL_arV2, itsL_stV2, itsL_eV2, itsL_ptsL]) rfl) ?_
       simp only [S.put, List.map_cons, List.map_nil, upT_p, upT_ref, upT_own, upT_mp, upT_junk, upT_mmQ, upT_pts, upT_aggp1, upT_tup2, mpsL_stV2, upT_prs, upM_agg1p, mpsL_arV2, mpsL_eV2, mpsL_ptsL, mpsR_pts, itsL_arV2, itsL_stV2, itsL_eV2, itsL_ptsL]
       refine AF3.nil ?_
       try simp only [nd, setL, V.cs, nz, Nat.reduceAdd, nm, ns]
       refine AW.less (s' := ⟨156, [(1, .ref 1 0), (2, .ref 2 0), (7, .mp 43 w0.heap.size (vrows (numK L' ++ [(kyS (toP Z), (lt' : Int))]))), (8, .own 49 1 lt' false), (9, .ref 9 0), (10, .i a'), (12, .ref 12 0), (13, .d (.mm (mmr encQ RC))), (17, .ref 17 0), (18, .i (w : Int)), (19, .d (ptsD (toP Z))), (20, .ref 20 0), (89, .d (.sl 2 16 (PR.map prD))), (90, .i la), (91, .i i)], [(1, ⟨24, [.i (s : Int), .d (stsD sts)], false, 0⟩), (2, ⟨24, [.i 0, .nil], false, 0⟩), (49, ⟨41, ptsV L', false, 1⟩), (9, ⟨24, [.i 0, .own 902 2 q (decide (q = 0))], false, 0⟩), (902, ⟨33, P.flatMap stV2, decide (q = 0), 2⟩), (12, ⟨33, [.i ft, .own 904 4 no (decide (no = 0))], false, 0⟩), (904, ⟨60, o.flatMap arV2, decide (no = 0), 4⟩), (17, ⟨51, [.i pi, .i po], false, 0⟩), (20, ⟨43, [.i (lt' : Int)], false, 0⟩)], []⟩) Less.a0 ?_
       clear hst hne hmg
       by_cases hfull : 400 < a' + 1 ∨ 60 < lt' + 1
       ·rw [if_pos hfull] at hrun
        rw [← hrun] at hcer
        simp only at hcer
        rw [if_pos zT12] at hcer
        obtain ⟨rfl, _⟩ := Prod.mk.inj hcer
        clear hrun
        rcases (show 400 < a' + 1 ∨ (¬ 400 < a' + 1 ∧ 60 < lt' + 1) by omega) with h | h
        ·skip
         apply AW.region
         iterate 2 refine AL.z ?_
         refine AL.sm rfl (sm_slice (vs := [(0, _)]) (zs := [.d (.p (.slice none 0 0))]) 123 Tryd.underlying45 inf41 rfl rfl zT12 zT12 zT12 rfl rfl rfl rfl zT1 rfl rfl) ?_
         refine AL.st rfl (st_appendF Tryd.underlying45 inf41 rfl zT12 rfl rfl rfl rfl rfl rfl zT5 zT1 rfl rfl rfl rfl rfl rfl rfl zT12 zT13 zT13 rfl) ?_
         simp only [S.forget, S.put, S.newObj, junkIf, V.has, V.hasL, nh, hasL_flat, hasL_append, List.map_cons, List.map_nil, List.filter_cons, List.filter_nil, Nat.reduceBNe, Nat.reduceBEq, eq_self, bne_self_eq_false,  Bool.not_true, Bool.not_false, Bool.or_false, Bool.or_true, Bool.false_or, Bool.true_or, if_true, if_false, Bool.false_eq_true, ite_true, ite_false, ↓reduceIte, beq_self_eq_true, Nat.reduceEqDiff]
         refine AL.z ?_
         apply AL.nil
         try simp only [nd, setL, V.cs, nz, Nat.reduceAdd, nm, ns]
         apply AW.seq
         apply AW.sr
         iterate 3 refine AL.z ?_
         apply AL.nil
         try simp only [nd]
         apply AW.sr
         iterate 3 refine AL.z ?_
         refine AL.noV rfl rfl rfl rfl ?_
         refine AL.noV rfl rfl rfl rfl ?_
         refine AL.noV rfl rfl rfl rfl ?_
         refine AL.z ?_
         apply AL.nil
         try simp only [nd]
         refine AW.condT rfl ?_
         apply AW.sr
         refine AL.rp rfl rfl (rp_build (vs := []) (zs := [.d (.p (.int .i64 0)), .d (.p (.slice none 0 0))]) pl24 inf24 rfl rfl rfl rfl) ?_
         refine AL.y ?_
         refine AL.z ?_
         apply AL.nil
         try simp only [nd, setL, V.cs, nz, Nat.reduceAdd, nm, ns]
         apply AW.ret
         exact ⟨[_, _], ⟨⟨2, 0, _, _, rfl, rfl, rfl, Tryd.underlying24, .inr ⟨rfl, _, _, _, _, inf24, rfl, rfl, rfl⟩⟩, rfl, trivial⟩, .inl ⟨by decide, rfl⟩, by simp [tupOf, V.pure, V.has, V.hasL]⟩
        skip
        apply AW.region
        iterate 2 refine AL.z ?_
        refine AL.sm rfl (sm_slice (vs := [(0, _)]) (zs := [.d (.p (.slice none 0 0))]) 123 Tryd.underlying45 inf41 rfl rfl zT12 zT12 zT12 rfl rfl rfl rfl zT1 rfl rfl) ?_
        refine AL.st rfl (st_appendF Tryd.underlying45 inf41 rfl zT12 rfl rfl rfl rfl rfl rfl zT5 zT1 rfl rfl rfl rfl rfl rfl rfl zT12 zT13 zT13 rfl) ?_
        simp only [S.forget, S.put, S.newObj, junkIf, V.has, V.hasL, nh, hasL_flat, hasL_append, List.map_cons, List.map_nil, List.filter_cons, List.filter_nil, Nat.reduceBNe, Nat.reduceBEq, eq_self, bne_self_eq_false,  Bool.not_true, Bool.not_false, Bool.or_false, Bool.or_true, Bool.false_or, Bool.true_or, if_true, if_false, Bool.false_eq_true, ite_true, ite_false, ↓reduceIte, beq_self_eq_true, Nat.reduceEqDiff]
        refine AL.z ?_
        apply AL.nil
        try simp only [nd, setL, V.cs, nz, Nat.reduceAdd, nm, ns]
        apply AW.seq
        apply AW.sr
        iterate 3 refine AL.z ?_
        apply AL.nil
        try simp only [nd]
        apply AW.sr
        iterate 3 refine AL.z ?_
        iterate 3 refine AL.zy ?_
        refine AL.z ?_
        apply AL.nil
        try simp only [nd]
        refine AW.condT rfl ?_
        apply AW.sr
        refine AL.rp rfl rfl (rp_build (vs := []) (zs := [.d (.p (.int .i64 0)), .d (.p (.slice none 0 0))]) pl24 inf24 rfl rfl rfl rfl) ?_
        refine AL.y ?_
        refine AL.z ?_
        apply AL.nil
        try simp only [nd, setL, V.cs, nz, Nat.reduceAdd, nm, ns]
        apply AW.ret
        exact ⟨[_, _], ⟨⟨2, 0, _, _, rfl, rfl, rfl, Tryd.underlying24, .inr ⟨rfl, _, _, _, _, inf24, rfl, rfl, rfl⟩⟩, rfl, trivial⟩, .inl ⟨by decide, rfl⟩, by simp [tupOf, V.pure, V.has, V.hasL]⟩
       rw [if_neg hfull] at hrun
       apply AW.region
       iterate 2 refine AL.z ?_
       refine AL.sm rfl (sm_slice (vs := [(0, _)]) (zs := [.d (.p (.slice none 0 0))]) 123 Tryd.underlying45 inf41 rfl rfl zT12 zT12 zT12 rfl rfl rfl rfl zT1 rfl rfl) ?_
       refine AL.st rfl (st_appendF Tryd.underlying45 inf41 rfl zT12 rfl rfl rfl rfl rfl rfl zT5 zT1 rfl rfl rfl rfl rfl rfl rfl zT12 zT13 zT13 rfl) ?_
       simp only [S.forget, S.put, S.newObj, junkIf, V.has, V.hasL, nh, hasL_flat, hasL_append, List.map_cons, List.map_nil, List.filter_cons, List.filter_nil, Nat.reduceBNe, Nat.reduceBEq, eq_self, bne_self_eq_false,  Bool.not_true, Bool.not_false, Bool.or_false, Bool.or_true, Bool.false_or, Bool.true_or, if_true, if_false, Bool.false_eq_true, ite_true, ite_false, ↓reduceIte, beq_self_eq_true, Nat.reduceEqDiff]
       refine AL.z ?_
       apply AL.nil
       try simp only [nd, setL, V.cs, nz, Nat.reduceAdd, nm, ns]
       apply AW.seq
       apply AW.sr
       iterate 3 refine AL.z ?_
       apply AL.nil
       try simp only [nd]
       apply AW.sr
       iterate 3 refine AL.z ?_
       iterate 3 refine AL.zy ?_
       refine AL.z ?_
       apply AL.nil
       try simp only [nd]
       refine AW.condF rfl ?_
       apply AW.skip
       try simp only [thenS]
       apply AW.region
       iterate 9 refine AL.z ?_
       refine AL.rp rfl rfl (rp_build (vs := [(0, _), (1, _), (2, _), (3, _)]) (zs := [.d (.p (.int .i64 0)), .d (.p (.int .i64 0)), .d (.p (.int .i64 0)), .d (.p (.int .i64 0))]) pl60 inf60 rfl rfl rfl rfl) ?_
       refine AL.sm rfl (sm_slice (vs := [(0, _)]) (zs := [.d (.p (.int .i64 0)), .d (.p (.int .i64 0)), .d (.p (.int .i64 0)), .d (.p (.int .i64 0))]) 145 Tryd.underlying31 inf60 rfl rfl zT12 zT12 zT12 rfl rfl rfl rfl zT1 rfl rfl) ?_
       refine AL.st rfl (st_appendF Tryd.underlying31 inf60 rfl zT12 rfl rfl rfl rfl rfl rfl zT5 zT1 rfl rfl rfl rfl rfl rfl rfl zT12 zT13 zT13 rfl) ?_
       simp only [S.forget, S.put, S.newObj, junkIf, V.has, V.hasL, nh, hasL_flat, hasL_append, List.map_cons, List.map_nil, List.filter_cons, List.filter_nil, Nat.reduceBNe, Nat.reduceBEq, eq_self, bne_self_eq_false,  Bool.not_true, Bool.not_false, Bool.or_false, Bool.or_true, Bool.false_or, Bool.true_or, if_true, if_false, Bool.false_eq_true, ite_true, ite_false, ↓reduceIte, beq_self_eq_true, Nat.reduceEqDiff]
       refine AL.z ?_
       (refine AL.st rfl (st_store inf31 rfl rfl rfl rfl rfl rfl rfl zT7 rfl) ?_)
       apply AL.nil
       try simp only [nd, setL, V.cs, nz, Nat.reduceAdd, nm, ns]
       apply AW.region
       iterate 2 refine AL.z ?_
       apply AL.nil
       try simp only [nd]
       refine ⟨_, ?_, ⟨i + 1, L' ++ [Z], a' + 1, o ++ [⟨pi, po, (w : Int), (lt' : Int)⟩], by omega, hrun, hnd2, fun j' d' hj' => ?_, by rw [List.length_append, hlt']; omega, by rw [List.length_append, hlt']; simp only [List.length_cons, List.length_nil]; omega, by omega, by rw [List.length_append, hno]; simp only [List.length_cons, List.length_nil]; omega, rfl⟩, ?_⟩
       ·rw [numK_snoc]
        simp only [List.flatMap_append, List.flatMap_cons, List.flatMap_nil, List.append_nil, List.length_append, List.length_cons, List.length_nil, Nat.zero_add, List.map_append, List.map_cons, List.map_nil, hlt', hno]
        exact Less.a0
       ·by_cases hjl : j' < L'.length
        ·rw [List.getElem?_append_left hjl] at hj'
         exact hBd j' d' hj'
        rw [List.getElem?_append_right zT13] at hj'
        cases hjj : j' - L'.length with
        | succ z => rw [hjj] at hj'; simp at hj'
        | zero =>
         rw [hjj] at hj'
         simp at hj'
         subst hj'
         refine ⟨hZl, fun u hu => ?_⟩
         exact up9 (hZB u hu) zT13
       simp [S.nat, fnd]; omega
      rw [if_neg hix] at hmg
      have had : lAd L' Z = L' := by unfold lAd; rw [if_neg (by rw [hlt']; exact hix)]
      rw [had, hlt'] at hrun
      obtain ⟨y, hy⟩ : ∃ y, lIx L' Z = y := ⟨_, rfl⟩
      rw [hy] at hmg hrun
      by_cases hfull : 400 < a' + 1
      ·rw [if_pos (.inl hfull)] at hrun
       rw [← hrun] at hcer
       simp only at hcer
       rw [if_pos zT12] at hcer
       obtain ⟨rfl, _⟩ := Prod.mk.inj hcer
       clear hrun
       apply AW.sr
       refine AL.z ?_
       apply AL.nil
       try simp only [nd]
       apply AW.seq
       refine AW.condT rfl ?_
       apply AW.skip
       try simp only [thenS]
       apply AW.seq
       apply AW.block
       apply AW.sr
       iterate 2 refine AL.z ?_
       refine AL.sm rfl (sm_alloc (l := [.d (.p (.int .i64 0)), .d (.p (.int .i64 0))]) 17 inf51 rfl zT1 rfl rfl) ?_
       refine AL.y ?_
       apply AL.nil
       try simp only [nd, setL, V.cs, nz, Nat.reduceAdd, nm, ns]
       apply AW.sr
       iterate 2 refine AL.z ?_
       refine AL.rd rfl rfl (rd_lookupMMD keyG51 Tryd.underlying47 inf57 rfl rfl (fun g a w hs => keyE51 (hs.ev rfl)) zT11) ?_
       refine AL.call (post := ?pc11) rfl (sm_call (args := [_]) ?hc11 ⟨Tryd.func15, rfl, rfl, rfl, rfl⟩ rfl rfl rfl rfl) ?_
       case hc11 => exact hst
       rintro _ rfl -
       try dsimp only
       iterate 5 refine AL.z ?_
       apply AL.nil
       try simp only [nd, setL, V.cs, nz, Nat.reduceAdd, nm, ns]
       apply AW.seq
       apply AW.sr
       iterate 2 refine AL.z ?_
       apply AL.nil
       try simp only [nd]
       refine AW.condF rfl ?_
       apply AW.skip
       try simp only [thenS]
       apply AW.sr
       iterate 2 refine AL.z ?_
       refine AL.call (post := ?pc12) rfl (sm_callP (args := [_]) (tab_kept _ _ _ _) zT11 ?hc12 ⟨Tryd.func9, rfl, rfl, rfl, rfl⟩ rfl rfl rfl rfl) ?_
       case hc12 => exact hkz
       rintro _ rfl -
       try dsimp only
       refine AL.rd rfl rfl (rd_lookupS_hit Tryd.underlying9 Tryd.underlying44 inf43 rfl rfl rfl zT11) ?_
       iterate 3 refine AL.z ?_
       refine AL.sm rfl (sm_alloc (l := [.d (.p (.int .i64 0))]) 20 inf43 rfl zT1 rfl rfl) ?_
       refine AL.y ?_
       refine AL.z ?_
       apply AL.nil
       try simp only [nd, setL, V.cs, nz, Nat.reduceAdd, nm, ns]
       apply AW.seq
       apply AW.sr
       iterate 2 refine AL.z ?_
       apply AL.nil
       try simp only [nd]
       refine AW.condF rfl ?_
       apply AW.skip
       try simp only [thenS]
       apply AW.seq
       apply AW.sr
       iterate 3 refine AL.z ?_
       apply AL.nil
       try simp only [nd]
       apply AW.sr
       iterate 3 refine AL.z ?_
       refine AL.noV rfl rfl rfl rfl ?_
       refine AL.noV rfl rfl rfl rfl ?_
       refine AL.noV rfl rfl rfl rfl ?_
       refine AL.z ?_
       apply AL.nil
       try simp only [nd]
       refine AW.condT rfl ?_
       apply AW.sr
       refine AL.rp rfl rfl (rp_build (vs := []) (zs := [.d (.p (.int .i64 0)), .d (.p (.slice none 0 0))]) pl24 inf24 rfl rfl rfl rfl) ?_
       refine AL.y ?_
       refine AL.z ?_
       apply AL.nil
       try simp only [nd, setL, V.cs, nz, Nat.reduceAdd, nm, ns]
       apply AW.ret
       exact ⟨[_, _], ⟨⟨2, 0, _, _, rfl, rfl, rfl, Tryd.underlying24, .inr ⟨rfl, _, _, _, _, inf24, rfl, rfl, rfl⟩⟩, rfl, trivial⟩, .inl ⟨by decide, rfl⟩, by simp [tupOf, V.pure, V.has, V.hasL]⟩
      rw [if_neg zT13] at hrun
      apply AW.sr
      refine AL.z ?_
      apply AL.nil
      try simp only [nd]
      apply AW.seq
      refine AW.condT rfl ?_
      apply AW.skip
      try simp only [thenS]
      apply AW.seq
      apply AW.block
      apply AW.sr
      iterate 2 refine AL.z ?_
      refine AL.sm rfl (sm_alloc (l := [.d (.p (.int .i64 0)), .d (.p (.int .i64 0))]) 17 inf51 rfl zT1 rfl rfl) ?_
      refine AL.y ?_
      apply AL.nil
      try simp only [nd, setL, V.cs, nz, Nat.reduceAdd, nm, ns]
      apply AW.sr
      iterate 2 refine AL.z ?_
      refine AL.rd rfl rfl (rd_lookupMMD keyG51 Tryd.underlying47 inf57 rfl rfl (fun g a w hs => keyE51 (hs.ev rfl)) zT11) ?_
      refine AL.call (post := ?pc13) rfl (sm_call (args := [_]) ?hc13 ⟨Tryd.func15, rfl, rfl, rfl, rfl⟩ rfl rfl rfl rfl) ?_
      case hc13 => exact hst
      rintro _ rfl -
      try dsimp only
      iterate 5 refine AL.z ?_
      apply AL.nil
      try simp only [nd, setL, V.cs, nz, Nat.reduceAdd, nm, ns]
      apply AW.seq
      apply AW.sr
      iterate 2 refine AL.z ?_
      apply AL.nil
      try simp only [nd]
      refine AW.condF rfl ?_
      apply AW.skip
      try simp only [thenS]
      apply AW.sr
      iterate 2 refine AL.z ?_
      refine AL.call (post := ?pc14) rfl (sm_callP (args := [_]) (tab_kept _ _ _ _) zT11 ?hc14 ⟨Tryd.func9, rfl, rfl, rfl, rfl⟩ rfl rfl rfl rfl) ?_
      case hc14 => exact hkz
      rintro _ rfl -
      try dsimp only
      refine AL.rd rfl rfl (rd_lookupS_hit Tryd.underlying9 Tryd.underlying44 inf43 rfl rfl rfl zT11) ?_
      iterate 3 refine AL.z ?_
      refine AL.sm rfl (sm_alloc (l := [.d (.p (.int .i64 0))]) 20 inf43 rfl zT1 rfl rfl) ?_
      refine AL.y ?_
      refine AL.z ?_
      apply AL.nil
      try simp only [nd, setL, V.cs, nz, Nat.reduceAdd, nm, ns]
      apply AW.seq
      apply AW.sr
      iterate 2 refine AL.z ?_
      apply AL.nil
      try simp only [nd]
      refine AW.condF rfl ?_
      apply AW.skip
      try simp only [thenS]
      apply AW.seq
      apply AW.sr
      iterate 3 refine AL.z ?_
      apply AL.nil
      try simp only [nd]
      apply AW.sr
      iterate 3 refine AL.z ?_
      iterate 3 refine AL.zy ?_
      refine AL.z ?_
      apply AL.nil
      try simp only [nd]
      refine AW.condF rfl ?_
      apply AW.skip
      try simp only [thenS]
      apply AW.region
      iterate 9 refine AL.z ?_
      refine AL.rp rfl rfl (rp_build (vs := [(0, _), (1, _), (2, _), (3, _)]) (zs := [.d (.p (.int .i64 0)), .d (.p (.int .i64 0)), .d (.p (.int .i64 0)), .d (.p (.int .i64 0))]) pl60 inf60 rfl rfl rfl rfl) ?_
      refine AL.sm rfl (sm_slice (vs := [(0, _)]) (zs := [.d (.p (.int .i64 0)), .d (.p (.int .i64 0)), .d (.p (.int .i64 0)), .d (.p (.int .i64 0))]) 145 Tryd.underlying31 inf60 rfl rfl zT12 zT12 zT12 rfl rfl rfl rfl zT1 rfl rfl) ?_
      refine AL.st rfl (st_appendF Tryd.underlying31 inf60 rfl zT12 rfl rfl rfl rfl rfl rfl zT5 zT1 rfl rfl rfl rfl rfl rfl rfl zT12 zT13 zT13 rfl) ?_
      simp only [S.forget, S.put, S.newObj, junkIf, V.has, V.hasL, nh, hasL_flat, hasL_append, List.map_cons, List.map_nil, List.filter_cons, List.filter_nil, Nat.reduceBNe, Nat.reduceBEq, eq_self, bne_self_eq_false,  Bool.not_true, Bool.not_false, Bool.or_false, Bool.or_true, Bool.false_or, Bool.true_or, if_true, if_false, Bool.false_eq_true, ite_true, ite_false, ↓reduceIte, beq_self_eq_true, Nat.reduceEqDiff]
      refine AL.z ?_
      (refine AL.st rfl (st_store inf31 rfl rfl rfl rfl rfl rfl rfl zT7 rfl) ?_)
      apply AL.nil
      try simp only [nd, setL, V.cs, nz, Nat.reduceAdd, nm, ns]
      apply AW.region
      iterate 2 refine AL.z ?_
      apply AL.nil
      try simp only [nd]
      refine ⟨_, ?_, ⟨i + 1, L', a' + 1, o ++ [⟨pi, po, (w : Int), (y : Int)⟩], by omega, hrun, hnd, hBd, by omega, by omega, by omega, by rw [List.length_append, hno]; simp only [List.length_cons, List.length_nil]; omega, rfl⟩, ?_⟩
      ·simp only [List.flatMap_append, List.flatMap_cons, List.flatMap_nil, List.append_nil, List.length_append, List.length_cons, List.length_nil, Nat.zero_add, hlt', hno]
       exact Less.a0
      simp [S.nat, fnd]; omega
     obtain rfl : i = la := by omega
     rw [List.drop_eq_nil_of_le zT13, cerA] at hrun
     rw [← hrun] at hcer
     simp only at hcer
     rw [if_neg zT14] at hcer
     apply AW.sr
     refine AL.z ?_
     apply AL.nil
     try simp only [nd]
     apply AW.seq
     refine AW.condF rfl ?_
     refine AW.exit ?_
     try simp only [thenS, inBlockS, ↓reduceIte, Nat.reduceEqDiff]
     refine AW.freezeH 12 1 32 (o.map arD) rfl rfl rfl zT12 rfl rfl (by rw [List.length_map, hno]) zT13 (rowsF (enc := arD) (sz := 4) (l := o) (fun _ => rfl) rfl) ?_
     apply AW.region
     iterate 3 refine AL.z ?_
     refine AL.sm rfl (sm_slice (vs := [(0, _)]) (zs := [.d (.p (.int .i64 0)), .d (.p (.slice none 0 0))]) 152 Tryd.underlying22 inf33 rfl rfl zT12 zT12 zT12 rfl rfl rfl rfl zT1 rfl rfl) ?_
     refine AL.st rfl (st_appendF Tryd.underlying22 inf33 rfl zT12 rfl rfl rfl rfl rfl rfl zT5 zT1 rfl rfl rfl rfl rfl rfl rfl zT12 zT13 zT13 rfl) ?_
     simp only [S.forget, S.put, S.newObj, junkIf, V.has, V.hasL, nh, hasL_flat, hasL_append, List.map_cons, List.map_nil, List.filter_cons, List.filter_nil, Nat.reduceBNe, Nat.reduceBEq, eq_self, bne_self_eq_false,  Bool.not_true, Bool.not_false, Bool.or_false, Bool.or_true, Bool.false_or, Bool.true_or, if_true, if_false, Bool.false_eq_true, ite_true, ite_false, ↓reduceIte, beq_self_eq_true, Nat.reduceEqDiff]
     refine AL.z ?_
     (refine AL.st rfl (st_store inf22 rfl rfl rfl rfl rfl rfl rfl zT7 rfl) ?_)
     apply AL.nil
     try simp only [nd, setL, V.cs, nz, Nat.reduceAdd, nm, ns]
     refine ⟨μ - 1, _, ?_, ⟨L', a', P ++ [⟨ft, o⟩], by rw [List.length_append, hPk]; simp only [List.length_cons, List.length_nil]; omega, ?_, hnd, hBd, by rw [List.length_append, hPk, hlt']; simp only [List.length_cons, List.length_nil]; omega, by omega, ha4', rfl⟩, ?_⟩
     ·simp only [List.flatMap_append, List.flatMap_cons, List.flatMap_nil, List.append_nil, List.length_append, List.length_cons, List.length_nil, Nat.zero_add, hPk, hlt']
      exact Less.a0
     ·rw [List.length_append, List.length_cons, List.length_nil, hPk, show 61 - (q + (0 + 1)) = 60 - q by omega]
      exact hcer
     omega
    skip
    apply AW.sr
    (refine AL.nextN rfl rfl rfl rfl (by (simp [S.put, S.newObj, setL, V.cs, V.itsL, V.its, mpsL_stV2, upT_prs, upM_agg1p, mpsL_arV2, mpsL_eV2, mpsL_ptsL, mpsR_pts, itsL_arV2, itsL_stV2, itsL_eV2, itsL_ptsL]; done)) rfl rfl rfl zT11 (fun j kv hj hns => ?_); simp only [S.put, List.map_cons, List.map_nil, upMI_d, upMI_ref, upMI_own, upMI_mp, upMI_junk, upMI_mit, upMI_tup2])
    refine AL.z ?_
    apply AL.nil
    try simp only [nd]
    apply AW.seq
    refine AW.condT rfl ?_
    apply AW.skip
    try simp only [thenS]
    apply AW.block
    apply AW.seq
    obtain ⟨x, hx, hkv⟩ : ∃ x, ks[j]? = some x ∧ kv.1 = encQ ((x.i : Int), (x.o : Int)) := by
     have h1 := congrArg (fun l => l[j]?) hl2
     simp only [List.getElem?_map, hj, Option.map_some] at h1
     cases hx : ks[j]? with
     | none => rw [hx] at h1; cases h1
     | some x =>
      rw [hx] at h1
      exact ⟨x, rfl, Option.some.inj h1⟩
    obtain ⟨kk, kz⟩ := kv
    simp only at hkv
    subst hkv
    have hjM : j < nk := by rw [← hnk]; exact (List.getElem?_eq_some_iff.1 hx).1
    obtain ⟨hnd2, hsj2⟩ := seen_snoc hsn2 hsj hjM hns
    have hlen2 := seen_len hnd2 hsj2
    simp only [List.length_append, List.length_cons, List.length_nil, hsl] at hlen2
    have hA2 : A ++ [x] = (seen ++ [j]).map fun j => id (ks.getD j default) := by
     rw [List.map_append, ← hA]
     simp [List.getD_eq_getElem?_getD, hx]
    have hE : eV2 eL x = [.i (x.i : Int), .i (x.o : Int)] := rfl
    clear hall hfd hsrt hXB hcer
    apply AW.region
    refine AL.rd rfl rfl (rd_entryM (vk := .agg [.i (x.i : Int), .i (x.o : Int)]) (vv := .junk) rfl rfl hj (fun _ _ _ => rep_Q _ _) (fun _ _ _ => .junk _)) ?_
    refine AL.z ?_
    refine AL.sm rfl (sm_alloc (l := [.d (.p (.int .i64 0)), .d (.p (.int .i64 0))]) 15 inf51 rfl zT1 rfl rfl) ?_
    refine AL.y ?_
    apply AL.nil
    try simp only [nd, setL, V.cs, nz, Nat.reduceAdd, nm, ns]
    apply AW.region
    iterate 2 refine AL.z ?_
    refine AL.sm rfl (sm_slice (vs := [(0, _)]) (zs := [.d (.p (.int .i64 0)), .d (.p (.int .i64 0))]) 85 Tryd.underlying49 inf51 rfl rfl zT12 zT12 zT12 rfl rfl rfl rfl zT1 rfl rfl) ?_
    refine AL.st rfl (st_appendF Tryd.underlying49 inf51 rfl zT12 rfl rfl rfl rfl rfl rfl zT5 zT1 rfl rfl rfl rfl rfl rfl rfl zT12 zT13 zT13 rfl) ?_
    simp only [S.forget, S.put, S.newObj, junkIf, V.has, V.hasL, nh, hasL_flat, hasL_append, List.map_cons, List.map_nil, List.filter_cons, List.filter_nil, Nat.reduceBNe, Nat.reduceBEq, eq_self, bne_self_eq_false,  Bool.not_true, Bool.not_false, Bool.or_false, Bool.or_true, Bool.false_or, Bool.true_or, if_true, if_false, Bool.false_eq_true, ite_true, ite_false, ↓reduceIte, beq_self_eq_true, Nat.reduceEqDiff]
    refine AL.z ?_
    apply AL.nil
    try simp only [nd, setL, V.cs, nz, Nat.reduceAdd, nm, ns]
    refine ⟨μ2 - 1, _, ?_, ⟨seen ++ [j], A ++ [x], la + 1, by omega, by simp [hsl], hnd2, hsj2, hA2, by simp [hAl], rfl⟩, by omega⟩
    simp only [List.flatMap_append, List.flatMap_cons, List.flatMap_nil, List.append_nil, hE]
    exact Less.a0
   rw [cerR_end zT13] at hcer
   obtain ⟨rfl, rfl⟩ := Prod.mk.inj hcer
   rw [hM rfl]
   apply AW.seq
   apply AW.sr
   iterate 6 refine AL.z ?_
   apply AL.nil
   try simp only [nd]
   refine AW.condF rfl ?_
   refine AW.exit ?_
   try simp only [thenS, inBlockS, ↓reduceIte, Nat.reduceEqDiff]
   apply AW.seq
   refine AW.freezeH 9 1 32 (P.map stD) rfl rfl rfl zT12 rfl rfl (by rw [List.length_map, hPk]) zT13 (rowsF (enc := stD) (sz := 2) (l := P) (fun _ => rfl) rfl) ?_
   apply AW.region
   refine AL.z ?_
   refine AL.y ?_
   refine AL.z ?_
   apply AL.nil
   try simp only [nd, setL, V.cs, nz, Nat.reduceAdd, nm, ns]
   apply AW.ret
   exact ⟨[_, _], ⟨⟨2, 0, _, _, rfl, rfl, rfl, Tryd.underlying24, .inr ⟨rfl, _, _, _, _, inf24, rfl, rfl, rfl⟩⟩, rfl, trivial⟩, .inr ⟨rfl, .inl rfl⟩, by simp [tupOf, V.pure, V.has, V.hasL]⟩
 have hE : ceE m = machE m := by unfold ceE; rw [if_pos h0]
 rw [prV_no h0] at hbits
 rw [hE]
 obtain ⟨e, he⟩ : ∃ e, machE m = e := ⟨_, rfl⟩
 rw [he] at hbits h0 ⊢
 obtain ⟨st, sts⟩ := m
 refine FnP.intro (n := 156) ⟨Tryd.func5, rfl, rfl, rfl, rfl⟩ zT8 zT14 fun w0 out hpre => ?_
 apply AW.sr
 refine AL.sm rfl (sm_box 1 rfl rfl rfl rfl rfl) ?_
 refine AL.sm rfl (sm_alloc (l := [.d (.p (.int .i64 0)), .d (.p (.slice none 0 0))]) 2 inf24 rfl rfl rfl rfl) ?_
 refine AL.z ?_
 apply AL.nil
 try simp only [nd, setL, V.cs, nz, Nat.reduceAdd, nm, ns, enum]
 apply AW.sr
 refine AL.z ?_
 refine AL.call (post := ?pc15) rfl (sm_call (args := [_]) ?hc15 ⟨Tryd.func8, rfl, rfl, rfl, rfl⟩ rfl rfl rfl rfl) ?_
 case hc15 => exact hbits
 rintro _ rfl -
 try dsimp only
 iterate 3 refine AL.z ?_
 refine AL.sm rfl (sm_alloc (l := [.d (.p (.bool false)), .d (.p (.bool false)), .d (.p (.bool false)), .d (.p (.bool false)), .d (.p (.bool false))]) 4 inf35 rfl rfl rfl rfl) ?_
 refine AL.y ?_
 refine AL.z ?_
 apply AL.nil
 try simp only [nd, setL, V.cs, nz, Nat.reduceAdd, nm, ns]
 apply AW.seq
 apply AW.sr
 iterate 2 refine AL.z ?_
 apply AL.nil
 try simp only [nd]
 refine AW.condT rfl ?_
 apply AW.sr
 refine AL.rp rfl rfl (rp_build (vs := []) (zs := [.d (.p (.int .i64 0)), .d (.p (.slice none 0 0))]) pl24 inf24 rfl rfl rfl rfl) ?_
 refine AL.z ?_
 refine AL.y ?_
 refine AL.z ?_
 apply AL.nil
 try simp only [nd, setL, V.cs, nz, Nat.reduceAdd, nm, ns]
 apply AW.ret
 exact ⟨[_, _], ⟨⟨2, 0, _, _, rfl, rfl, rfl, Tryd.underlying24, .inr ⟨rfl, _, _, _, _, inf24, rfl, rfl, rfl⟩⟩, rfl, trivial⟩, .inl ⟨h0, rfl⟩, by simp [tupOf, V.pure, V.has, V.hasL]⟩
theorem FnP.wkE {Pre : World → Prop} {P : Program} {f : FuncId} {args : List V} {post post' : V → Prop} (h : FnP Pre P f args post) (hp : ∀ v, post v → v.pure → ∃ v', post' v' ∧ v'.pure ∧ ∀ w q g x, VRep w q g v x → VRep w q g v' x) : FnP Pre P f args post' := fun w out g xs h0 h1 h2 =>
  (h w out g xs h0 h1 h2).mono fun e w' ⟨v, x, k1, k2, k3, k4, k5⟩ => let ⟨v', j1, j2, j3⟩ := hp v k2 k3; ⟨v', x, k1, j1, j2, j3 _ _ _ _ k4, k5⟩
theorem resE_wk {e : Int} {M : Mach} (hM : e ≠ 0 → M = ⟨0, []⟩) (v : V) (h : resE e M v) (_ : v.pure) : ∃ v', v' = .tup [mV M, .i e] ∧ v'.pure ∧ ∀ w q g x, VRep w q g v x → VRep w q g v' x := by
  refine ⟨_, rfl, by simp [V.pure, V.has, V.hasL], ?_⟩
  rcases h with ⟨h0, rfl⟩ | ⟨h0, rfl | ⟨h1, rfl⟩⟩
  · rw [hM h0]
    exact rep_tup2 (rep_zeroM 0)
  · rw [h0]
    exact fun _ _ _ _ h => h
  obtain ⟨st, sts⟩ := M
  simp only at h1 ⊢
  rw [h0, h1]
  exact rep_tup2 (rep_zeroM st)
theorem ceM_none {m : Mach} (h : ceE m ≠ 0) : ceM m = ⟨0, []⟩ := by unfold ceM; rw [if_pos h]
theorem am_CertMake (m : Mach) : FnP preT Tryd.prog 5 [mV m] (fun v => v = .tup [mV (ceM m), .i (ceE m)]) := (am_Make0 m).wkE (resE_wk ceM_none)
theorem am_Certained (m : Mach) : Fn Tryd.prog 6 [mV m] (fun v => v = .tup [mV (ceM m), .i (ceE m)]) := (am_Certained0 m).wkS (resE_wk ceM_none)
theorem cmp_neq_60F {c : Cx} {s : S} {o : Oper} {t' : TypeId} {x y : Operand} {a b : Ar} (hP : c.P = Tryd.prog) (ho : o.op = .binOp .neq 60 x y t') (hx : s.ev x = some (.agg ((arD a).map V.d))) (hy : s.ev y = some (.agg ((arD b).map V.d))) (h : a = b) : RP c o s (.b false) := by
 subst h
 refine rp_bin_agg [.int .i64 a.i, .int .i64 a.o, .int .i64 a.w, .int .i64 a.t] [.int .i64 a.i, .int .i64 a.o, .int .i64 a.w, .int .i64 a.t] ho hx hy (fun w => ?_) (fun w => ?_)
 ·rw [hP]; simp [go_sem]
 rw [hP]; simp [go_sem]
theorem am_SameArcs (l : List Ar) : Fn Tryd.prog 38 [.d (arsD l), .d (arsD l)] (fun v => v = .b true) := by
 refine Fn.sl 0 rfl fun hb => ?_
 obtain ⟨n, hn⟩ : ∃ n, l.length = n := ⟨_, rfl⟩
 rw [List.length_map, hn] at hb
 refine Fn.intro (n := 26) ⟨Tryd.func38, rfl, rfl, rfl, rfl⟩ zT8 zT14 fun w0 out => ?_
 apply AW.sr
 refine AL.z ?_
 apply AL.nil
 try simp only [thenS, S.put, enum, List.nil_append, List.cons_append, List.append_nil, Nat.zero_add, Nat.reduceAdd]
 apply AW.seq
 apply AW.sr
 iterate 5 refine AL.z ?_
 apply AL.nil
 try simp only [nd]
 refine AW.condF rfl ?_
 apply AW.skip
 try simp only [thenS]
 apply AW.seq
 apply AW.sr
 refine AL.z ?_
 apply AL.nil
 try simp only [nd]
 apply AW.block
 refine AW.loop (fun s' => ∃ k : Nat, k ≤ n ∧ s' = ⟨26, [(0, .d (arsD l)), (1, .d (arsD l)), (5, .i k)], [], []⟩) (fun s' => n - s'.nat 5) ⟨_, ?_, 0, by omega, rfl⟩ ?_
 ·exact Less.a0
 rintro s' ⟨k, hk, rfl⟩
 by_cases hlt : k < n
 ·obtain ⟨x, hx⟩ := get_lt hn hlt
  apply AW.seq
  apply AW.sr
  iterate 4 refine AL.z ?_
  apply AL.nil
  try simp only [nd]
  refine AW.condT rfl ?_
  apply AW.skip
  try simp only [thenS]
  apply AW.seq
  apply AW.block
  apply AW.seq
  refine AW.draw [(0, true), (1, true), (2, true), (3, true), (4, true), (5, true), (6, true), (7, true), (8, true)] (fun i => !([] : List Nat).contains i) 9 zT10 zT10 rfl zT10 ?_
  iterate 8 refine AD1.z ?_
  refine AD1.rp rfl rfl rfl (fun _ _ h => h) (cmp_neq_60F rfl rfl rfl rfl (by first | assumption | rfl)) ?_
  refine AD1.nil ?_
  try simp only [nd]
  refine AW.condF rfl ?_
  apply AW.skip
  try simp only [thenS]
  apply AW.region
  iterate 3 refine AL.z ?_
  apply AL.nil
  try simp only [nd]
  refine ⟨_, ?_, ⟨k + 1, by omega, rfl⟩, ?_⟩
  ·exact Less.a0
  simp [S.nat, fnd]; omega
 skip
 apply AW.seq
 apply AW.sr
 iterate 4 refine AL.z ?_
 apply AL.nil
 try simp only [nd]
 refine AW.condF rfl ?_
 refine AW.exit ?_
 try simp only [thenS, inBlockS, ↓reduceIte, Nat.reduceEqDiff]
 apply AW.sr
 refine AL.z ?_
 apply AL.nil
 try simp only [nd]
 apply AW.ret
 exact ⟨[_], ⟨rfl, trivial⟩, rfl, by simp [tupOf, V.pure, V.has]⟩
theorem am_SameMachine (m : Mach) : Fn Tryd.prog 22 [mV m, mV m] (fun v => v = .b true) := by
 refine Fn.mach m 0 rfl fun hb _ => ?_
 obtain ⟨st, sts⟩ := m
 obtain ⟨n, hn⟩ : ∃ n, sts.length = n := ⟨_, rfl⟩
 simp only [hn] at hb
 refine Fn.intro (n := 56) ⟨Tryd.func22, rfl, rfl, rfl, rfl⟩ zT8 zT14 fun w0 out => ?_
 apply AW.sr
 refine AL.sm rfl (sm_box 2 rfl rfl rfl rfl rfl) ?_
 refine AL.sm rfl (sm_box 3 rfl rfl rfl rfl rfl) ?_
 refine AL.z ?_
 apply AL.nil
 try simp only [nd, setL, V.cs, nz, Nat.reduceAdd, nm, ns, enum]
 apply AW.seq
 apply AW.sr
 iterate 6 refine AL.z ?_
 iterate 7 refine AL.zy ?_
 refine AL.z ?_
 apply AL.nil
 try simp only [nd]
 refine AW.condF rfl ?_
 apply AW.skip
 try simp only [thenS]
 apply AW.seq
 apply AW.sr
 refine AL.z ?_
 apply AL.nil
 try simp only [nd]
 apply AW.block
 refine AW.loop (fun s' => ∃ k : Nat, k ≤ n ∧ s' = ⟨56, [(2, .ref 2 0), (3, .ref 3 0), (5, .i k)], [(2, ⟨24, [.i st, .d (stsD sts)], false, 0⟩), (3, ⟨24, [.i st, .d (stsD sts)], false, 0⟩)], []⟩) (fun s' => n - s'.nat 5) ⟨_, ?_, 0, by omega, rfl⟩ ?_
 ·exact Less.a0
 rintro s' ⟨k, hk, rfl⟩
 by_cases hlt : k < n
 ·obtain ⟨x, hx⟩ := get_lt hn hlt
  apply AW.seq
  apply AW.sr
  iterate 5 refine AL.z ?_
  apply AL.nil
  try simp only [nd]
  refine AW.condT rfl ?_
  apply AW.skip
  try simp only [thenS]
  apply AW.seq
  apply AW.block
  apply AW.seq
  refine AW.draw [(0, true), (1, true), (2, true), (3, true), (4, true), (5, true), (6, true), (7, true), (8, true), (9, true), (10, true), (11, true), (12, true), (13, true), (14, true), (15, true), (16, true), (17, true), (18, true), (19, true), (20, true), (21, true), (22, true), (23, true), (24, true), (25, true), (26, false), (27, false), (28, false)] (fun i => !([] : List Nat).contains i) 29 zT10 zT10 rfl zT10 ?_
  iterate 14 refine AD1.z ?_
  iterate 12 refine AD1.zy ?_
  refine AD1.go ?_
  (refine AD2.cally (post := ?pc0) rfl rfl rfl (sm_call (args := [_, _]) ?hc0 ⟨Tryd.func38, rfl, rfl, rfl, rfl⟩ rfl rfl rfl rfl) ?_; (case hc0 => (exact am_SameArcs _)); rintro _ rfl -; try dsimp only)
  refine AD2.rp1y rfl rfl rfl rfl (rp_not rfl rfl) ?_
  refine AD2.rp1 rfl rfl rfl (rp_pick rfl rfl rfl) ?_
  refine AD2.nil ?_
  try simp only [nd, setL, V.cs, nz, Nat.reduceAdd, nm, ns]
  refine AW.condF rfl ?_
  apply AW.skip
  try simp only [thenS]
  apply AW.region
  iterate 3 refine AL.z ?_
  apply AL.nil
  try simp only [nd]
  refine ⟨_, ?_, ⟨k + 1, by omega, rfl⟩, ?_⟩
  ·exact Less.a0
  simp [S.nat, fnd]; omega
 skip
 apply AW.seq
 apply AW.sr
 iterate 5 refine AL.z ?_
 apply AL.nil
 try simp only [nd]
 refine AW.condF rfl ?_
 refine AW.exit ?_
 try simp only [thenS, inBlockS, ↓reduceIte, Nat.reduceEqDiff]
 apply AW.sr
 refine AL.z ?_
 apply AL.nil
 try simp only [nd]
 apply AW.ret
 exact ⟨[_], ⟨rfl, trivial⟩, rfl, by simp [tupOf, V.pure, V.has]⟩
theorem am_sameMachine (m : Mach) : Fn Tryd.prog 7 [mV m, mV m] (fun v => v = .b true) := by
 refine Fn.intro (n := 8) ⟨Tryd.func7, rfl, rfl, rfl, rfl⟩ zT8 zT14 fun w0 out => ?_
 apply AW.sr
 refine AL.sm rfl (sm_box 2 rfl rfl rfl rfl rfl) ?_
 refine AL.sm rfl (sm_box 3 rfl rfl rfl rfl rfl) ?_
 refine AL.z ?_
 apply AL.nil
 try simp only [nd, setL, V.cs, nz, Nat.reduceAdd, nm, ns, enum]
 apply AW.sr
 iterate 2 refine AL.z ?_
 refine AL.call (post := ?pc1) rfl (sm_call (args := [_, _]) ?hc1 ⟨Tryd.func22, rfl, rfl, rfl, rfl⟩ rfl rfl rfl rfl) ?_
 case hc1 => exact am_SameMachine _
 rintro _ rfl -
 try dsimp only
 refine AL.z ?_
 apply AL.nil
 try simp only [nd, setL, V.cs, nz, Nat.reduceAdd, nm, ns]
 apply AW.ret
 exact ⟨[_], ⟨rfl, trivial⟩, rfl, by simp [tupOf, V.pure, V.has]⟩
abbrev stV (s : St) : List V := (stD s).map V.d
theorem am_machine (m : Mach) : Fn Tryd.prog 4 [mV m] (fun v => v = mV m) := by
 refine Fn.mach m 0 rfl fun hb _ => ?_
 obtain ⟨st, sts⟩ := m
 obtain ⟨n, hn⟩ : ∃ n, sts.length = n := ⟨_, rfl⟩
 simp only [hn] at hb
 refine Fn.intro (n := 35) ⟨Tryd.func4, rfl, rfl, rfl, rfl⟩ zT8 zT14 fun w0 out => ?_
 apply AW.sr
 refine AL.sm rfl (sm_box 1 rfl rfl rfl rfl rfl) ?_
 refine AL.sm rfl (sm_alloc (l := [.d (.p (.int .i64 0)), .d (.p (.slice none 0 0))]) 2 inf24 rfl rfl rfl rfl) ?_
 apply AL.nil
 try simp only [nd, setL, V.cs, nz, Nat.reduceAdd, nm, ns, enum]
 apply AW.sr
 iterate 2 refine AL.z ?_
 refine AL.rp rfl rfl (rp_build (vs := [(0, _)]) (zs := [.d (.p (.int .i64 0)), .d (.p (.slice none 0 0))]) pl24 inf24 rfl rfl rfl rfl) ?_
 refine AL.sm rfl (sm_alloc (l := [.d (.p (.int .i64 0)), .d (.p (.slice none 0 0))]) 3 inf24 rfl rfl rfl rfl) ?_
 refine AL.y ?_
 apply AL.nil
 try simp only [nd, setL, V.cs, nz, Nat.reduceAdd, nm, ns]
 apply AW.seq
 apply AW.sr
 refine AL.z ?_
 apply AL.nil
 try simp only [nd]
 apply AW.block
 refine AW.adoptH 3 1 100 2 33 rfl rfl rfl (by simp [S.clean, V.has, V.hasL, V.cs, setL]) ?_
 refine AW.loop (fun s' => ∃ k : Nat, k ≤ n ∧ s' = ⟨35, [(1, .ref 1 0), (2, .ref 2 0), (3, .ref 3 0), (4, .i k)], [(1, ⟨24, [.i st, .d (stsD sts)], false, 0⟩), (2, ⟨24, [.i 0, .nil], false, 0⟩),
  (3, ⟨24, [.i st, .own 100 2 k (decide (k = 0))], false, 0⟩), (100, ⟨33, (sts.take k).flatMap stV, decide (k = 0), 2⟩)], []⟩) (fun s' => n - s'.nat 4) ⟨_, ?_, 0, by omega, rfl⟩ ?_
 ·exact Less.a0
 rintro s' ⟨k, hk, rfl⟩
 by_cases hlt : k < n
 ·obtain ⟨x, hx⟩ := get_lt hn hlt
  have hfl : ((sts.take k).flatMap stV).length = k * 2 := by rw [flat_len (sz := 2) (fun _ => rfl), List.length_take]; omega
  have hsn : (sts.take (k + 1)).flatMap stV = (sts.take k).flatMap stV ++ stV x := by rw [take_snoc hx]; simp
  apply AW.seq
  apply AW.sr
  iterate 5 refine AL.z ?_
  apply AL.nil
  try simp only [nd]
  refine AW.condT rfl ?_
  apply AW.skip
  try simp only [thenS]
  apply AW.seq
  apply AW.block
  refine AW.draw [(0, true), (1, true), (2, true), (3, true), (4, true), (5, true), (6, true), (7, true), (8, true), (9, true), (10, true), (11, true), (12, true), (13, true), (14, false), (15, false), (16, false), (17, false), (18, false), (19, false)] (fun i => !([17, 18, 19] : List Nat).contains i) 20 zT10 zT10 rfl zT10 ?_
  iterate 14 refine AD1.z ?_
  refine AD1.go ?_
  refine AD2.sm rfl rfl (sm_clone Tryd.underlying31 inf60 rfl zT12 zT12 zT12 rfl rfl rfl (by first | (simp [arD, D.one, Value.oneCell']; done) | assumption) rfl) ?_
  refine AD2.rp1 rfl rfl rfl (rp_build (vs := [(0, _), (1, _)]) (zs := [.d (.p (.int .i64 0)), .d (.p (.slice none 0 0))]) pl33 inf33 rfl rfl rfl rfl) ?_
  refine AD2.sm rfl rfl (sm_slice (vs := [(0, _)]) (zs := [.d (.p (.int .i64 0)), .d (.p (.slice none 0 0))]) 31 Tryd.underlying22 inf33 rfl rfl zT12 zT12 zT12 rfl rfl rfl rfl zT1 rfl rfl) ?_
  refine AD2.go ?_
  refine AD3.st rfl rfl rfl (st_appendF Tryd.underlying22 inf33 rfl zT12 rfl rfl rfl rfl rfl rfl zT5 zT1 rfl rfl rfl rfl rfl rfl rfl zT12 zT13 zT13 rfl) ?_
  simp only [S.forget, S.put, S.newObj, junkIf, V.has, V.hasL, nh, hasL_flat, hasL_append, List.map_cons, List.map_nil, List.filter_cons, List.filter_nil, Nat.reduceBNe, Nat.reduceBEq, eq_self, bne_self_eq_false,  Bool.not_true, Bool.not_false, Bool.or_false, Bool.or_true, Bool.false_or, Bool.true_or, if_true, if_false, Bool.false_eq_true, ite_true, ite_false, ↓reduceIte, beq_self_eq_true, Nat.reduceEqDiff]
  refine AD3.rp1 rfl rfl rfl rfl (rp_field_ref Tryd.underlying24 rfl rfl rfl inf22 zT12 rfl) ?_
  (refine AD3.st rfl rfl rfl (st_store inf22 rfl rfl rfl rfl rfl rfl rfl zT7 rfl) ?_)
  refine AD3.nil ?_
  try simp only [nd, setL, V.cs, nz, Nat.reduceAdd, nm, ns]
  apply AW.region
  iterate 3 refine AL.z ?_
  apply AL.nil
  try simp only [nd]
  refine ⟨_, ?_, ⟨k + 1, by omega, rfl⟩, ?_⟩
  ·rw [hsn]; exact Less.a0
  simp [S.nat, fnd]; omega
 skip
 apply AW.seq
 apply AW.sr
 iterate 5 refine AL.z ?_
 apply AL.nil
 try simp only [nd]
 refine AW.condF rfl ?_
 refine AW.exit ?_
 try simp only [thenS, inBlockS, ↓reduceIte, Nat.reduceEqDiff]
 apply AW.seq
 obtain rfl : k = n := by omega
 rw [List.take_of_length_le zT13]
 refine AW.freezeH 3 1 32 (sts.map stD) rfl rfl rfl zT12 rfl rfl (by simpa using hn) zT13 (rowsF (enc := stD) (sz := 2) (l := sts) (fun _ => rfl) rfl) ?_
 apply AW.region
 refine AL.z ?_
 refine AL.y ?_
 apply AL.nil
 try simp only [nd, setL, V.cs, nz, Nat.reduceAdd, nm, ns]
 apply AW.ret
 exact ⟨[_], ⟨⟨2, 0, _, _, rfl, rfl, rfl, Tryd.underlying24, .inr ⟨rfl, _, _, _, _, inf24, rfl, rfl, rfl⟩⟩, trivial⟩, rfl, by simp [tupOf, V.pure, V.has, V.hasL]⟩
end Go.Proofs.YthiknkcigcglkaaDoor
