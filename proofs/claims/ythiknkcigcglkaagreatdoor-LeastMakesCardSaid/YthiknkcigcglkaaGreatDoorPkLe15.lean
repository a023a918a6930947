/- Part 15 of what the law LeastMakes rests on. -/
import Derived.Test.YthiknkcigcglkaaGreatDoorPkLe1
import Derived.Test.YthiknkcigcglkaaGreatDoorPkLe2
import Derived.Test.YthiknkcigcglkaaGreatDoorPkLe3
import Derived.Test.YthiknkcigcglkaaGreatDoorPkLe4
import Derived.Test.YthiknkcigcglkaaGreatDoorPkLe5
import Derived.Test.YthiknkcigcglkaaGreatDoorPkLe6
import Derived.Test.YthiknkcigcglkaaGreatDoorPkLe7
import Derived.Test.YthiknkcigcglkaaGreatDoorPkLe8
import Derived.Test.YthiknkcigcglkaaGreatDoorPkLe9
import Derived.Test.YthiknkcigcglkaaGreatDoorPkLe10
import Derived.Test.YthiknkcigcglkaaGreatDoorPkLe11
import Derived.Test.YthiknkcigcglkaaGreatDoorPkLe12
import Derived.Test.YthiknkcigcglkaaGreatDoorPkLe13
import Derived.Test.YthiknkcigcglkaaGreatDoorPkLe14
namespace Go.Proofs.YthiknkcigcglkaaGreatDoor
open Go.RowKit
set_option linter.unusedSimpArgs false
set_option linter.unusedVariables false
set_option maxRecDepth 100000
set_option maxHeartbeats 8000000
theorem clS_lt {sts : List St} (ht : tin sts) : ∀ c ∈ clS sts, c < sts.length := fun c hc => by
 obtain ⟨q, hq⟩ := List.getElem?_of_mem hc
 have hl : (clS sts).length = sts.length := by simp [clS]
 have hql : q < sts.length := by rw [← hl]; exact (List.getElem?_eq_some_iff.1 hq).1
 obtain ⟨j, h1, h2⟩ := clS_get hql
 obtain ⟨h3, _⟩ := h2 q hql (sim_refl ht hql)
 rw [clG_mem hl hql, Option.some.injEq] at hq
 omega
/-- What the search for a state of t's class has found. -/
def fndJ (cl l : List Nat) (t j : Nat) (v : Int) : Prop := (v = -1 ∧ ∀ (i q : Nat), i < j → l[i]? = some q → clG cl q ≠ clG cl t) ∨ ∃ i q : Nat, i < j ∧ l[i]? = some q ∧ clG cl q = clG cl t ∧ v = (i : Int)
theorem fndJ.zero (cl l : List Nat) (t : Nat) : fndJ cl l t 0 (-1) := .inl ⟨rfl, fun i q h => absurd h zT15⟩
theorem fndJ.yes {cl l : List Nat} {t j q : Nat} {v : Int} (h : fndJ cl l t j v) (hq : l[j]? = some q) (hc : clG cl q = clG cl t) : fndJ cl l t (j + 1) (j : Int) := .inr ⟨j, q, by omega, hq, hc, rfl⟩
theorem fndJ.no {cl l : List Nat} {t j q : Nat} {v : Int} (h : fndJ cl l t j v) (hq : l[j]? = some q) (hc : clG cl q ≠ clG cl t) : fndJ cl l t (j + 1) v := by
 rcases h with ⟨h1, h2⟩ | ⟨i, q', h1, h2⟩
 ·refine .inl ⟨h1, fun i q' hi hq' => ?_⟩
  by_cases e : i = j
  ·subst e
   rw [hq] at hq'
   cases hq'
   exact hc
  exact h2 i q' zT15 hq'
 exact .inr ⟨i, q', by omega, h2⟩
theorem fndJ.end {cl l : List Nat} {t : Nat} {v : Int} (h : fndJ cl l t l.length v) (hd : dstC cl l) : (v < 0 ∧ fndC cl l t = l.length) ∨ ∃ i : Nat, v = (i : Int) ∧ i < l.length ∧ fndC cl l t = i := by
 rcases h with ⟨h1, h2⟩ | ⟨i, q, h1, h2, h3, h4⟩
 ·refine .inl ⟨by omega, fndC_none fun q hq => ?_⟩
  obtain ⟨i, hi⟩ := List.getElem?_of_mem hq
  exact h2 i q (List.getElem?_eq_some_iff.1 hi).1 hi
 exact .inr ⟨i, h4, h1, fndC_some hd h2 h3⟩
theorem am_Leasted0 (m : Mach) : Fn Tryz.prog 8 [mV m] (fun v => resQ (leE m) (leM m) (leV m) v) := by
 have hlike := am_Like m
 by_cases h0 : machE m = 0
 ·rw [prV_ok h0, h0] at hlike
  cases hfl : bFl m.states with
  | false =>
   have hE : leE m = 7 := by unfold leE; rw [if_neg (by simp [h0]), if_pos hfl]
   rw [hE]
   rw [hfl] at hlike
   clear hE h0 hfl
   obtain ⟨st, sts⟩ := m
   refine Fn.intro (n := 141) ⟨Tryz.func8, rfl, rfl, rfl, rfl⟩ zT8 zT16 fun w0 out => ?_
   apply AW.sr
   refine AL.sm rfl (sm_box 1 rfl rfl rfl rfl rfl) ?_
   refine AL.sm rfl (sm_alloc (l := [.d (.p (.int .i64 0)), .d (.p (.slice none 0 0))]) 2 inf24 rfl rfl rfl rfl) ?_
   iterate 2 refine AL.z ?_
   apply AL.nil
   try simp only [nd, setL, V.cs, nz, Nat.reduceAdd, nm, ns, enum]
   apply AW.sr
   refine AL.z ?_
   refine AL.call (post := ?pc0) rfl (sm_call (args := [_]) ?hc0 ⟨Tryz.func19, rfl, rfl, rfl, rfl⟩ rfl rfl rfl rfl) ?_
   case hc0 => exact hlike
   rintro _ rfl -
   try dsimp only
   iterate 3 refine AL.z ?_
   refine AL.sm rfl (sm_alloc (l := [.d (.p (.bool false)), .d (.p (.bool false)), .d (.p (.bool false)), .d (.p (.bool false)), .d (.p (.bool false))]) 5 inf37 rfl rfl rfl rfl) ?_
   refine AL.y ?_
   refine AL.z ?_
   apply AL.nil
   try simp only [nd, setL, V.cs, nz, Nat.reduceAdd, nm, ns]
   apply AW.seq
   apply AW.sr
   iterate 2 refine AL.z ?_
   apply AL.nil
   try simp only [nd]
   refine AW.condF rfl ?_
   apply AW.skip
   try simp only [thenS]
   apply AW.seq
   apply AW.sr
   iterate 3 refine AL.z ?_
   apply AL.nil
   try simp only [nd]
   refine AW.condT rfl ?_
   apply AW.sr
   refine AL.rp rfl rfl (rp_build (vs := []) (zs := [.d (.p (.int .i64 0)), .d (.p (.slice none 0 0))]) pl24 inf24 rfl rfl rfl rfl) ?_
   refine AL.y ?_
   iterate 2 refine AL.z ?_
   apply AL.nil
   try simp only [nd, setL, V.cs, nz, Nat.reduceAdd, nm, ns]
   apply AW.ret
   exact ⟨[_, _, _], ⟨⟨2, 0, _, _, rfl, rfl, rfl, Tryz.underlying24, .inr ⟨rfl, _, _, _, _, inf24, rfl, rfl, rfl⟩⟩, rfl, rfl, trivial⟩, .inl ⟨by decide, rfl⟩, by simp [tupOf, V.pure, V.has, V.hasL]⟩
  | true =>
   cases hdi : (bDi m.states && bFl m.states) with
   | false =>
    have hE : leE m = 8 := by unfold leE; rw [if_neg (by simp [h0]), if_neg (by simp [hfl]), if_pos hdi]
    rw [hE]
    rw [hdi, hfl] at hlike
    clear hE h0 hdi hfl
    obtain ⟨st, sts⟩ := m
    refine Fn.intro (n := 141) ⟨Tryz.func8, rfl, rfl, rfl, rfl⟩ zT8 zT16 fun w0 out => ?_
    apply AW.sr
    refine AL.sm rfl (sm_box 1 rfl rfl rfl rfl rfl) ?_
    refine AL.sm rfl (sm_alloc (l := [.d (.p (.int .i64 0)), .d (.p (.slice none 0 0))]) 2 inf24 rfl rfl rfl rfl) ?_
    iterate 2 refine AL.z ?_
    apply AL.nil
    try simp only [nd, setL, V.cs, nz, Nat.reduceAdd, nm, ns, enum]
    apply AW.sr
    refine AL.z ?_
    refine AL.call (post := ?pc1) rfl (sm_call (args := [_]) ?hc1 ⟨Tryz.func19, rfl, rfl, rfl, rfl⟩ rfl rfl rfl rfl) ?_
    case hc1 => exact hlike
    rintro _ rfl -
    try dsimp only
    iterate 3 refine AL.z ?_
    refine AL.sm rfl (sm_alloc (l := [.d (.p (.bool false)), .d (.p (.bool false)), .d (.p (.bool false)), .d (.p (.bool false)), .d (.p (.bool false))]) 5 inf37 rfl rfl rfl rfl) ?_
    refine AL.y ?_
    refine AL.z ?_
    apply AL.nil
    try simp only [nd, setL, V.cs, nz, Nat.reduceAdd, nm, ns]
    apply AW.seq
    apply AW.sr
    iterate 2 refine AL.z ?_
    apply AL.nil
    try simp only [nd]
    refine AW.condF rfl ?_
    apply AW.skip
    try simp only [thenS]
    apply AW.seq
    apply AW.sr
    iterate 3 refine AL.z ?_
    apply AL.nil
    try simp only [nd]
    refine AW.condF rfl ?_
    apply AW.skip
    try simp only [thenS]
    apply AW.seq
    apply AW.sr
    iterate 3 refine AL.z ?_
    apply AL.nil
    try simp only [nd]
    refine AW.condT rfl ?_
    apply AW.sr
    refine AL.rp rfl rfl (rp_build (vs := []) (zs := [.d (.p (.int .i64 0)), .d (.p (.slice none 0 0))]) pl24 inf24 rfl rfl rfl rfl) ?_
    refine AL.y ?_
    iterate 2 refine AL.z ?_
    apply AL.nil
    try simp only [nd, setL, V.cs, nz, Nat.reduceAdd, nm, ns]
    apply AW.ret
    exact ⟨[_, _, _], ⟨⟨2, 0, _, _, rfl, rfl, rfl, Tryz.underlying24, .inr ⟨rfl, _, _, _, _, inf24, rfl, rfl, rfl⟩⟩, rfl, rfl, trivial⟩, .inl ⟨by decide, rfl⟩, by simp [tupOf, V.pure, V.has, V.hasL]⟩
   | true =>
    have hE : leE m = pushE m := by unfold leE; rw [if_neg (by simp [h0]), if_neg (by simp [hfl]), if_neg (by simp [hdi])]
    have hpush := am_Pushed0 m
    rw [hdi, hfl] at hlike
    by_cases hpe : pushE m = 0
    ·have hE0 : leE m = 0 := by rw [hE, hpe]
     have hpg := push_good hpe
     have hsort := am_ArrR (pushM m)
     obtain ⟨s1, s2, s3⟩ := srt_good hpg
     obtain ⟨z60, y1, zst, y2⟩ := machE_zero hpg
     clear y1 y2
     rw [hpg] at hsort
     have hpush' : Fn Tryz.prog 20 [mV m] (fun v => v = .tup [mV (pushM m), .i (pushV m), .i 0]) := by have := am_Pushed m; rw [hpe] at this; exact this
     have hM : leM m = if (pushM m).start < 0 then resM inO (pushM m) else ⟨0, lstS (resM inO (pushM m)).states (pushM m).start.toNat⟩ := by unfold leM; rw [if_pos hE0]
     have hV : leV m = if (pushM m).start < 0 then 0 else pushV m := by unfold leV; rw [if_pos hE0]
     rw [hE0, hM, hV]
     obtain ⟨PM, hPM⟩ : ∃ PM, pushM m = PM := ⟨_, rfl⟩
     obtain ⟨PV, hPV⟩ : ∃ PV, pushV m = PV := ⟨_, rfl⟩
     obtain ⟨S, hS⟩ : ∃ S, resM inO PM = S := ⟨_, rfl⟩
     rw [hPM] at hsort s1 s2 s3 z60 zst hpush' ⊢
     rw [hPV] at hpush' ⊢
     rw [hS] at hsort s1 s2 s3 ⊢
     rw [← s1]
     rw [← s1, ← s2] at zst
     rw [← s2] at z60 s3
     clear hE hE0 hM hV hpg hpush hpe hdi hfl h0 hPM hPV hS s1 s2
     obtain ⟨st, sts⟩ := m
     obtain ⟨pst, psts⟩ := PM
     obtain ⟨s0, ss⟩ := S
     simp only at hsort s3 z60 zst ⊢
     by_cases hneg : s0 < 0
     ·rw [if_pos hneg, if_pos hneg]
      refine Fn.intro (n := 141) ⟨Tryz.func8, rfl, rfl, rfl, rfl⟩ zT8 zT16 fun w0 out => ?_
      apply AW.sr
      refine AL.sm rfl (sm_box 1 rfl rfl rfl rfl rfl) ?_
      refine AL.sm rfl (sm_alloc (l := [.d (.p (.int .i64 0)), .d (.p (.slice none 0 0))]) 2 inf24 rfl rfl rfl rfl) ?_
      iterate 2 refine AL.z ?_
      apply AL.nil
      try simp only [nd, setL, V.cs, nz, Nat.reduceAdd, nm, ns, enum]
      apply AW.sr
      refine AL.z ?_
      refine AL.call (post := ?pc2) rfl (sm_call (args := [_]) ?hc2 ⟨Tryz.func19, rfl, rfl, rfl, rfl⟩ rfl rfl rfl rfl) ?_
      case hc2 => exact hlike
      rintro _ rfl -
      try dsimp only
      iterate 3 refine AL.z ?_
      refine AL.sm rfl (sm_alloc (l := [.d (.p (.bool false)), .d (.p (.bool false)), .d (.p (.bool false)), .d (.p (.bool false)), .d (.p (.bool false))]) 5 inf37 rfl rfl rfl rfl) ?_
      refine AL.y ?_
      refine AL.z ?_
      apply AL.nil
      try simp only [nd, setL, V.cs, nz, Nat.reduceAdd, nm, ns]
      apply AW.seq
      apply AW.sr
      iterate 2 refine AL.z ?_
      apply AL.nil
      try simp only [nd]
      refine AW.condF rfl ?_
      apply AW.skip
      try simp only [thenS]
      apply AW.seq
      apply AW.sr
      iterate 3 refine AL.z ?_
      apply AL.nil
      try simp only [nd]
      refine AW.condF rfl ?_
      apply AW.skip
      try simp only [thenS]
      apply AW.seq
      apply AW.sr
      iterate 3 refine AL.z ?_
      apply AL.nil
      try simp only [nd]
      refine AW.condF rfl ?_
      apply AW.skip
      try simp only [thenS]
      apply AW.sr
      refine AL.z ?_
      refine AL.call (post := ?pc3) rfl (sm_call (args := [_]) ?hc3 ⟨Tryz.func20, rfl, rfl, rfl, rfl⟩ rfl rfl rfl rfl) ?_
      case hc3 => exact hpush'
      rintro _ rfl -
      try dsimp only
      iterate 4 refine AL.z ?_
      refine AL.sm rfl (sm_alloc (l := [.d (.p (.int .i64 0)), .d (.p (.slice none 0 0))]) 7 inf24 rfl rfl rfl rfl) ?_
      refine AL.y ?_
      iterate 2 refine AL.z ?_
      apply AL.nil
      try simp only [nd, setL, V.cs, nz, Nat.reduceAdd, nm, ns]
      apply AW.seq
      apply AW.sr
      iterate 2 refine AL.z ?_
      apply AL.nil
      try simp only [nd]
      refine AW.condF rfl ?_
      apply AW.skip
      try simp only [thenS]
      apply AW.sr
      refine AL.z ?_
      refine AL.call (post := ?pc4) rfl (sm_call (args := [_, _]) ?hc4 ⟨Tryz.func21, rfl, rfl, rfl, rfl⟩ rfl rfl rfl rfl) ?_
      case hc4 => exact hsort
      rintro _ rfl -
      try dsimp only
      iterate 3 refine AL.z ?_
      refine AL.sm rfl (sm_alloc (l := [.d (.p (.int .i64 0)), .d (.p (.slice none 0 0))]) 9 inf24 rfl rfl rfl rfl) ?_
      refine AL.y ?_
      refine AL.z ?_
      apply AL.nil
      try simp only [nd, setL, V.cs, nz, Nat.reduceAdd, nm, ns]
      apply AW.seq
      apply AW.sr
      iterate 3 refine AL.z ?_
      apply AL.nil
      try simp only [nd]
      refine AW.condT rfl ?_
      apply AW.sr
      refine AL.z ?_
      refine AL.y ?_
      iterate 2 refine AL.z ?_
      apply AL.nil
      try simp only [nd, setL, V.cs, nz, Nat.reduceAdd, nm, ns]
      apply AW.ret
      exact ⟨[_, _, _], ⟨⟨2, 0, _, _, rfl, rfl, rfl, Tryz.underlying24, .inr ⟨rfl, _, _, _, _, inf24, rfl, rfl, rfl⟩⟩, rfl, rfl, trivial⟩, .inr ⟨rfl, rfl⟩, by simp [tupOf, V.pure, V.has, V.hasL]⟩
     rw [if_neg hneg, if_neg hneg]
     obtain ⟨s, rfl⟩ := Int.eq_ofNat_of_zero_le (show 0 ≤ s0 by omega)
     obtain ⟨n, hn⟩ : ∃ n, ss.length = n := ⟨_, rfl⟩
     have htin : tin ss := fun x hx a ha => by
      have h1 := (s3 x hx).2.2 a ha
      simp only [arOk, decide_eq_true_eq] at h1
      omega
     have htel := am_tellApart (s : Int) ss z60 (fun x hx => (s3 x hx).1) (fun x hx a ha => by
      have h1 := (s3 x hx).2.2 a ha
      simp only [arOk, decide_eq_true_eq] at h1
      omega)
     have hbr : bldC ss (clS ss) ss.length [s] [] = lstS ss s := rfl
     have hcl : (clS ss).length = ss.length := by simp [clS]
     have hcm := clS_lt htin
     have hciff := fun q p (hq : q < ss.length) (hp : p < ss.length) => clS_iff htin hq hp
     have hd1 := dstC_one (clS ss) s
     generalize clS ss = cl at hbr hcl hcm hciff hd1
     simp only [Int.toNat_natCast]
     obtain ⟨R, hR⟩ : ∃ R, lstS ss s = R := ⟨_, rfl⟩
     rw [hR] at hbr ⊢
     rw [hn] at z60 zst htel s3 hbr hcl hcm hciff
     clear htin hR
     refine Fn.intro (n := 141) ⟨Tryz.func8, rfl, rfl, rfl, rfl⟩ zT8 zT16 fun w0 out => ?_
     apply AW.sr
     refine AL.sm rfl (sm_box 1 rfl rfl rfl rfl rfl) ?_
     refine AL.sm rfl (sm_alloc (l := [.d (.p (.int .i64 0)), .d (.p (.slice none 0 0))]) 2 inf24 rfl rfl rfl rfl) ?_
     iterate 2 refine AL.z ?_
     apply AL.nil
     try simp only [nd, setL, V.cs, nz, Nat.reduceAdd, nm, ns, enum]
     apply AW.sr
     refine AL.z ?_
     refine AL.call (post := ?pc5) rfl (sm_call (args := [_]) ?hc5 ⟨Tryz.func19, rfl, rfl, rfl, rfl⟩ rfl rfl rfl rfl) ?_
     case hc5 => exact hlike
     rintro _ rfl -
     try dsimp only
     iterate 3 refine AL.z ?_
     refine AL.sm rfl (sm_alloc (l := [.d (.p (.bool false)), .d (.p (.bool false)), .d (.p (.bool false)), .d (.p (.bool false)), .d (.p (.bool false))]) 5 inf37 rfl rfl rfl rfl) ?_
     refine AL.y ?_
     refine AL.z ?_
     apply AL.nil
     try simp only [nd, setL, V.cs, nz, Nat.reduceAdd, nm, ns]
     apply AW.seq
     apply AW.sr
     iterate 2 refine AL.z ?_
     apply AL.nil
     try simp only [nd]
     refine AW.condF rfl ?_
     apply AW.skip
     try simp only [thenS]
     apply AW.seq
     apply AW.sr
     iterate 3 refine AL.z ?_
     apply AL.nil
     try simp only [nd]
     refine AW.condF rfl ?_
     apply AW.skip
     try simp only [thenS]
     apply AW.seq
     apply AW.sr
     iterate 3 refine AL.z ?_
     apply AL.nil
     try simp only [nd]
     refine AW.condF rfl ?_
     apply AW.skip
     try simp only [thenS]
     apply AW.sr
     refine AL.z ?_
     refine AL.call (post := ?pc6) rfl (sm_call (args := [_]) ?hc6 ⟨Tryz.func20, rfl, rfl, rfl, rfl⟩ rfl rfl rfl rfl) ?_
     case hc6 => exact hpush'
     rintro _ rfl -
     try dsimp only
     iterate 4 refine AL.z ?_
     refine AL.sm rfl (sm_alloc (l := [.d (.p (.int .i64 0)), .d (.p (.slice none 0 0))]) 7 inf24 rfl rfl rfl rfl) ?_
     refine AL.y ?_
     iterate 2 refine AL.z ?_
     apply AL.nil
     try simp only [nd, setL, V.cs, nz, Nat.reduceAdd, nm, ns]
     apply AW.seq
     apply AW.sr
     iterate 2 refine AL.z ?_
     apply AL.nil
     try simp only [nd]
     refine AW.condF rfl ?_
     apply AW.skip
     try simp only [thenS]
     apply AW.sr
     refine AL.z ?_
     refine AL.call (post := ?pc7) rfl (sm_call (args := [_, _]) ?hc7 ⟨Tryz.func21, rfl, rfl, rfl, rfl⟩ rfl rfl rfl rfl) ?_
     case hc7 => exact hsort
     rintro _ rfl -
     try dsimp only
     iterate 3 refine AL.z ?_
     refine AL.sm rfl (sm_alloc (l := [.d (.p (.int .i64 0)), .d (.p (.slice none 0 0))]) 9 inf24 rfl rfl rfl rfl) ?_
     refine AL.y ?_
     refine AL.z ?_
     apply AL.nil
     try simp only [nd, setL, V.cs, nz, Nat.reduceAdd, nm, ns]
     apply AW.seq
     apply AW.sr
     iterate 3 refine AL.z ?_
     apply AL.nil
     try simp only [nd]
     refine AW.condF rfl ?_
     apply AW.skip
     try simp only [thenS]
     apply AW.sr
     refine AL.z ?_
     refine AL.call (post := ?pc8) rfl (sm_call (args := [_]) ?hc8 ⟨Tryz.func22, rfl, rfl, rfl, rfl⟩ rfl rfl rfl rfl) ?_
     case hc8 => exact htel
     rintro _ ⟨T, rfl, hTok, hTs⟩ -
     try dsimp only
     refine AL.z ?_
     apply AL.nil
     try simp only [nd, setL, V.cs, nz, Nat.reduceAdd, nm, ns]
     apply AW.sr
     iterate 2 refine AL.z ?_
     refine AL.sm rfl (sm_slice (vs := [(0, _)]) (zs := [.d (.p (.int .i64 0))]) 61 Tryz.underlying42 inf3 rfl rfl zT14 zT14 zT14 rfl rfl rfl rfl rfl rfl rfl) ?_
     refine AL.z ?_
     apply AL.nil
     try simp only [nd, setL, V.cs, nz, Nat.reduceAdd, nm, ns]
     apply AW.sr
     refine AL.rp rfl rfl (rp_build (vs := [(0, _)]) (zs := [.d (.p (.int .i64 0)), .d (.p (.slice none 0 0))]) pl24 inf24 rfl rfl rfl rfl) ?_
     refine AL.sm rfl (sm_alloc (l := [.d (.p (.int .i64 0)), .d (.p (.slice none 0 0))]) 13 inf24 rfl rfl rfl rfl) ?_
     refine AL.y ?_
     apply AL.nil
     try simp only [nd, setL, V.cs, nz, Nat.reduceAdd, nm, ns]
     apply AW.seq
     apply AW.seq
     refine AW.adoptH 13 1 902 2 35 rfl rfl rfl (by simp [S.clean, V.has, V.hasL, V.cs, setL, hasL_i, hasL_n, hasL_flat]) ?_
     apply AW.region
     refine AL.z ?_
     apply AL.nil
     try simp only [nd]
     apply AW.block
     clear htel hlike hpush' hsort
     have hmatch : ∀ q p, q < n → p < n → (tG T q p = false ↔ clG cl q = clG cl p) := fun q p hq hp => (hTs q p hq hp).trans (hciff q p hq hp).symm
     clear hTs hciff
     refine AW.loopN (fun μ s' => ∃ (l : List Nat) (P : List St), n - P.length ≤ μ ∧ bldC ss cl (n - P.length) l P = R ∧ dstC cl l ∧ (∀ q ∈ l, q < n) ∧ P.length ≤ l.length ∧ s' = ⟨141, [(2, .ref 2 0), (8, .i PV), (9, .ref 9 0), (11, .d (.sl 1 24 (T.map tabE))), (12, .own 61 1 l.length false), (13, .ref 13 0), (14, .i P.length)], [(2, ⟨24, [.i 0, .nil], false, 0⟩), (9, ⟨24, [.i (s : Int), .d (stsD ss)], false, 0⟩), (61, ⟨3, l.map V.n, false, 1⟩), (13, ⟨24, [.i 0, .own 902 2 P.length (decide (P.length = 0))], false, 0⟩), (902, ⟨35, P.flatMap stV2, decide (P.length = 0), 2⟩)], []⟩) ⟨n, _, ?_, [s], [], by simp, by simpa using hbr, hd1, fun q hq => by rw [List.mem_singleton] at hq; omega, by simp, rfl⟩ ?_
     ·exact Less.a0
     clear hbr hd1
     rintro μ s' ⟨l, P, hμ, hbr, hd, hll, hPl, rfl⟩
     obtain ⟨k, hPk⟩ : ∃ k, P.length = k := ⟨_, rfl⟩
     obtain ⟨lt, hlt⟩ : ∃ k, l.length = k := ⟨_, rfl⟩
     have hlm := dstC_le hd hll hcl hcm
     have hflP : (P.flatMap stV2).length = k * 2 := by rw [flat_len (sz := 2) (fun _ => rfl), hPk]
     rw [hlt] at hlm
     rw [hPk, hlt] at hPl
     rw [hPk] at hμ hbr
     simp only [hPk, hlt]
     by_cases hkl : k < lt
     ·obtain ⟨q, hq⟩ := get_lt hlt hkl
      have hqn := hll q (List.mem_of_getElem? hq)
      obtain ⟨x, hx⟩ := get_lt hn hqn
      rw [show n - k = (n - k - 1) + 1 by omega, bldC_step (by rw [hPk]; exact hq) hx] at hbr
      obtain ⟨hx4, hxf, hxa⟩ := s3 x (List.mem_of_getElem? hx)
      obtain ⟨fin, A⟩ := x
      simp only at hx4 hxa hbr
      obtain ⟨la, hla⟩ : ∃ la, A.length = la := ⟨_, rfl⟩
      rw [hla] at hx4
      apply AW.seq
      apply AW.sr
      iterate 4 refine AL.z ?_
      apply AL.nil
      try simp only [nd]
      refine AW.condT rfl ?_
      apply AW.skip
      try simp only [thenS]
      apply AW.seq
      apply AW.block
      apply AW.seq
      refine AW.draw [(0, true), (1, true), (2, true), (3, true), (4, true), (5, true), (6, true), (7, true), (8, false), (9, false)] (fun i => !([9] : List Nat).contains i) 10 zT12 zT12 rfl zT12 ?_
      iterate 8 refine AD1.z ?_
      refine AD1.go ?_
      refine AD2.sm rfl rfl (sm_alloc (l := [.d (.p (.int .i64 0)), .d (.p (.slice none 0 0))]) 15 inf35 rfl zT1 rfl rfl) ?_
      refine AD2.go ?_
      refine AD3.st rfl rfl rfl (st_store_any inf35 rfl rfl rfl rfl rfl rfl rfl rfl zT3 rfl) ?_
      refine AD3.nil ?_
      try simp only [nd, setL, V.cs, nz, Nat.reduceAdd, nm, ns]
      apply AW.sr
      iterate 2 refine AL.z ?_
      refine AL.rp rfl rfl (rp_build (vs := [(0, _)]) (zs := [.d (.p (.int .i64 0)), .d (.p (.slice none 0 0))]) pl35 inf35 rfl rfl rfl rfl) ?_
      refine AL.sm rfl (sm_alloc (l := [.d (.p (.int .i64 0)), .d (.p (.slice none 0 0))]) 16 inf35 rfl zT1 rfl rfl) ?_
      refine AL.y ?_
      apply AL.nil
      try simp only [nd, setL, V.cs, nz, Nat.reduceAdd, nm, ns]
      apply AW.seq
      apply AW.seq
      refine AW.adoptH 16 1 903 4 47 rfl rfl rfl (by simp [S.clean, V.has, V.hasL, V.cs, setL, hasL_i, hasL_n, hasL_flat]) ?_
      apply AW.region
      refine AL.z ?_
      apply AL.nil
      try simp only [nd]
      apply AW.block
      have hla0 : arcsC cl l (A.drop 0) [] = arcsC cl l A [] := by rw [List.drop_zero]
      refine AW.loop (fun s' => ∃ (i : Nat) (l' : List Nat) (o : List Ar), i ≤ la ∧ arcsC cl l' (A.drop i) o = arcsC cl l A [] ∧ dstC cl l' ∧ (∀ q ∈ l', q < n) ∧ k < l'.length ∧ o.length = i ∧ s' = ⟨141, [(2, .ref 2 0), (8, .i PV), (9, .ref 9 0), (11, .d (.sl 1 24 (T.map tabE))), (12, .own 61 1 l'.length false), (13, .ref 13 0), (14, .i k), (15, .ref 15 0), (16, .ref 16 0), (17, .i i)], [(2, ⟨24, [.i 0, .nil], false, 0⟩), (9, ⟨24, [.i (s : Int), .d (stsD ss)], false, 0⟩), (61, ⟨3, l'.map V.n, false, 1⟩), (13, ⟨24, [.i 0, .own 902 2 k (decide (k = 0))], false, 0⟩), (902, ⟨35, P.flatMap stV2, decide (k = 0), 2⟩), (15, ⟨35, [.i fin, .d (arsD A)], false, 0⟩), (16, ⟨35, [.i fin, .own 903 4 o.length (decide (o.length = 0))], false, 0⟩), (903, ⟨47, o.flatMap arV2, decide (o.length = 0), 4⟩)], []⟩) (fun s' => la - s'.nat 17) ⟨_, ?_, 0, l, [], by omega, hla0, hd, hll, by omega, rfl, rfl⟩ ?_
      ·rw [hlt]
       exact Less.a0
      clear hla0 hd hll
      rintro s' ⟨i, l', o, hi, hrun, hd, hll, hkl', ho, rfl⟩
      obtain ⟨lt', hlt'⟩ : ∃ k, l'.length = k := ⟨_, rfl⟩
      have hlm' := dstC_le hd hll hcl hcm
      rw [hlt'] at hlm' hkl'
      have hflo : (o.flatMap arV2).length = i * 4 := by rw [flat_len (sz := 4) (fun _ => rfl), ho]
      have hfl' : (l'.map V.n).length = lt' * 1 := by rw [List.length_map, hlt', Nat.mul_one]
      simp only [hlt', ho]
      by_cases hil : i < la
      ·obtain ⟨a, ha⟩ := get_lt hla hil
       have h3 := hxa a (List.mem_of_getElem? ha)
       simp only [arOk, decide_eq_true_eq] at h3
       rw [arcsC_at ha] at hrun
       obtain ⟨ai, ao, aw, at'⟩ := a
       simp only at h3
       obtain ⟨p, rfl⟩ := Int.eq_ofNat_of_zero_le h3.2.2.2.1
       have hpn : p < n := by omega
       apply AW.seq
       apply AW.sr
       iterate 5 refine AL.z ?_
       apply AL.nil
       try simp only [nd]
       refine AW.condT rfl ?_
       apply AW.skip
       try simp only [thenS]
       apply AW.seq
       apply AW.block
       apply AW.sr
       iterate 5 refine AL.z ?_
       refine AL.sm rfl (sm_alloc (l := [.d (.p (.int .i64 0)), .d (.p (.int .i64 0)), .d (.p (.int .i64 0)), .d (.p (.int .i64 0))]) 18 inf47 rfl zT1 rfl rfl) ?_
       refine AL.y ?_
       apply AL.nil
       try simp only [nd, setL, V.cs, nz, Nat.reduceAdd, nm, ns]
       apply AW.sr
       refine AL.z ?_
       apply AL.nil
       try simp only [nd]
       apply AW.seq
       apply AW.sr
       refine AL.z ?_
       apply AL.nil
       try simp only [nd]
       apply AW.block
       have hf0 := fndJ.zero cl l' p
       refine AW.loop (fun s' => ∃ (j : Nat) (v : Int), j ≤ lt' ∧ fndJ cl l' p j v ∧ s' = ⟨141, [(2, .ref 2 0), (8, .i PV), (9, .ref 9 0), (11, .d (.sl 1 24 (T.map tabE))), (12, .own 61 1 lt' false), (13, .ref 13 0), (14, .i k), (15, .ref 15 0), (16, .ref 16 0), (17, .i i), (18, .ref 18 0), (19, .i v), (20, .i j)], [(2, ⟨24, [.i 0, .nil], false, 0⟩), (9, ⟨24, [.i (s : Int), .d (stsD ss)], false, 0⟩), (61, ⟨3, l'.map V.n, false, 1⟩), (13, ⟨24, [.i 0, .own 902 2 k (decide (k = 0))], false, 0⟩), (902, ⟨35, P.flatMap stV2, decide (k = 0), 2⟩), (15, ⟨35, [.i fin, .d (arsD A)], false, 0⟩), (16, ⟨35, [.i fin, .own 903 4 i (decide (i = 0))], false, 0⟩), (903, ⟨47, o.flatMap arV2, decide (i = 0), 4⟩), (18, ⟨47, [.i ai, .i ao, .i aw, .i (p : Int)], false, 0⟩)], []⟩) (fun s' => lt' - s'.nat 20) ⟨_, ?_, 0, -1, by omega, hf0, rfl⟩ ?_
       ·exact Less.a0
       clear hf0
       rintro s' ⟨j, v, hj, hf, rfl⟩
       by_cases hjl : j < lt'
       ·obtain ⟨q', hq'⟩ := get_lt hlt' hjl
        have hqn' := hll q' (List.mem_of_getElem? hq')
        obtain ⟨r, hr, _, hrg⟩ := hTok.row hqn'
        have hb := hrg p hpn
        have hmm := hmatch q' p hqn' hpn
        obtain ⟨tb, htb⟩ : ∃ tb, tG T q' p = tb := ⟨_, rfl⟩
        rw [htb] at hb hmm
        clear hrg htb
        cases tb with
        | true =>
         have hf2 := hf.no hq' fun h => by have := hmm.2 h; cases this
         clear hf
         apply AW.seq
         apply AW.sr
         iterate 4 refine AL.z ?_
         apply AL.nil
         try simp only [nd]
         refine AW.condT rfl ?_
         apply AW.skip
         try simp only [thenS]
         apply AW.seq
         apply AW.block
         apply AW.seq
         refine AW.draw [(0, true), (1, true), (2, true), (3, true), (4, true), (5, true), (6, true), (7, true), (8, true), (9, true), (10, true), (11, true)] (fun i => !([] : List Nat).contains i) 12 zT12 zT12 rfl zT12 ?_
         iterate 12 refine AD1.z ?_
         refine AD1.nil ?_
         try simp only [nd]
         refine AW.condF rfl ?_
         apply AW.skip
         try simp only [thenS]
         apply AW.region
         iterate 3 refine AL.z ?_
         apply AL.nil
         try simp only [nd]
         refine ⟨_, ?_, ⟨j + 1, v, by omega, hf2, rfl⟩, ?_⟩
         ·exact Less.a0
         simp [S.nat, fnd]; omega
        | false =>
         have hf2 := hf.yes hq' (hmm.1 rfl)
         clear hf
         apply AW.seq
         apply AW.sr
         iterate 4 refine AL.z ?_
         apply AL.nil
         try simp only [nd]
         refine AW.condT rfl ?_
         apply AW.skip
         try simp only [thenS]
         apply AW.seq
         apply AW.block
         apply AW.seq
         refine AW.draw [(0, true), (1, true), (2, true), (3, true), (4, true), (5, true), (6, true), (7, true), (8, true), (9, true), (10, true), (11, true)] (fun i => !([] : List Nat).contains i) 12 zT12 zT12 rfl zT12 ?_
         iterate 12 refine AD1.z ?_
         refine AD1.nil ?_
         try simp only [nd]
         refine AW.condT rfl ?_
         apply AW.region
         iterate 2 refine AL.z ?_
         apply AL.nil
         try simp only [nd]
         apply AW.region
         iterate 3 refine AL.z ?_
         apply AL.nil
         try simp only [nd]
         refine ⟨_, ?_, ⟨j + 1, (j : Int), by omega, hf2, rfl⟩, ?_⟩
         ·exact Less.a0
         simp [S.nat, fnd]; omega
       obtain rfl : j = lt' := by omega
       rw [← hlt'] at hf
       have hfe := hf.end hd
       clear hf
       rcases hfe with ⟨hv0, hnew⟩ | ⟨w, rfl, hw1, hw2⟩
       ·obtain ⟨t1, t2⟩ := takC_new (a := ⟨ai, ao, aw, (p : Int)⟩) zT16 hnew
        have hd2 := dst_snoc hd hnew
        rw [t1, t2, hlt'] at hrun
        clear hd hnew t1 t2
        apply AW.seq
        apply AW.sr
        iterate 4 refine AL.z ?_
        apply AL.nil
        try simp only [nd]
        refine AW.condF rfl ?_
        refine AW.exit ?_
        try simp only [thenS, inBlockS, ↓reduceIte, Nat.reduceEqDiff]
        apply AW.seq
        apply AW.sr
        iterate 2 refine AL.z ?_
        apply AL.nil
        try simp only [nd]
        refine AW.condT rfl ?_
        apply AW.sr
        iterate 3 refine AL.z ?_
        apply AL.nil
        try simp only [nd]
        apply AW.region
        iterate 3 refine AL.z ?_
        refine AL.sm rfl (sm_slice (vs := [(0, _)]) (zs := [.d (.p (.int .i64 0))]) 118 Tryz.underlying42 inf3 rfl rfl zT14 zT14 zT14 rfl rfl rfl rfl zT1 rfl rfl) ?_
        refine AL.st rfl (st_appendF Tryz.underlying42 inf3 rfl zT14 rfl rfl rfl rfl rfl rfl zT5 zT1 rfl rfl rfl rfl rfl rfl rfl zT14 zT15 zT15 rfl) ?_
        simp only [S.forget, S.put, S.newObj, junkIf, V.has, V.hasL, nh, hasL_flat, hasL_append, List.map_cons, List.map_nil, List.filter_cons, List.filter_nil, Nat.reduceBNe, Nat.reduceBEq, eq_self, bne_self_eq_false,  Bool.not_true, Bool.not_false, Bool.or_false, Bool.or_true, Bool.false_or, Bool.true_or, if_true, if_false, Bool.false_eq_true, ite_true, ite_false, ↓reduceIte, beq_self_eq_true, Nat.reduceEqDiff]
        refine AL.z ?_
        apply AL.nil
        try simp only [nd, setL, V.cs, nz, Nat.reduceAdd, nm, ns]
        apply AW.region
        iterate 9 refine AL.z ?_
        refine AL.rp rfl rfl (rp_build (vs := [(0, _), (1, _), (2, _), (3, _)]) (zs := [.d (.p (.int .i64 0)), .d (.p (.int .i64 0)), .d (.p (.int .i64 0)), .d (.p (.int .i64 0))]) pl47 inf47 rfl rfl rfl rfl) ?_
        refine AL.sm rfl (sm_slice (vs := [(0, _)]) (zs := [.d (.p (.int .i64 0)), .d (.p (.int .i64 0)), .d (.p (.int .i64 0)), .d (.p (.int .i64 0))]) 130 Tryz.underlying33 inf47 rfl rfl zT14 zT14 zT14 rfl rfl rfl rfl zT1 rfl rfl) ?_
        refine AL.st rfl (st_appendF Tryz.underlying33 inf47 rfl zT14 rfl rfl rfl rfl rfl rfl zT5 zT1 rfl rfl rfl rfl rfl rfl rfl zT14 zT15 zT15 rfl) ?_
        simp only [S.forget, S.put, S.newObj, junkIf, V.has, V.hasL, nh, hasL_flat, hasL_append, List.map_cons, List.map_nil, List.filter_cons, List.filter_nil, Nat.reduceBNe, Nat.reduceBEq, eq_self, bne_self_eq_false,  Bool.not_true, Bool.not_false, Bool.or_false, Bool.or_true, Bool.false_or, Bool.true_or, if_true, if_false, Bool.false_eq_true, ite_true, ite_false, ↓reduceIte, beq_self_eq_true, Nat.reduceEqDiff]
        refine AL.z ?_
        (refine AL.st rfl (st_store inf33 rfl rfl rfl rfl rfl rfl rfl zT7 rfl) ?_)
        apply AL.nil
        try simp only [nd, setL, V.cs, nz, Nat.reduceAdd, nm, ns]
        apply AW.region
        iterate 3 refine AL.z ?_
        apply AL.nil
        try simp only [nd]
        refine ⟨_, ?_, ⟨i + 1, l' ++ [p], o ++ [⟨ai, ao, aw, (j : Int)⟩], by omega, hrun, hd2, fun q hq => ?_, by rw [List.length_append, hlt']; omega, by simp [ho], rfl⟩, ?_⟩
        ·simp only [List.flatMap_append, List.flatMap_cons, List.flatMap_nil, List.append_nil, List.length_append, List.length_cons, List.length_nil, Nat.zero_add, List.map_append, List.map_cons, List.map_nil, hlt', ho]
         exact Less.a0
        ·rcases List.mem_append.1 hq with h | h
         ·exact hll q h
         rw [List.mem_singleton] at h; omega
        simp [S.nat, fnd]; omega
       obtain ⟨t1, t2⟩ := takC_old (a := ⟨ai, ao, aw, (p : Int)⟩) zT16 hw2 hw1
       rw [t1, t2] at hrun
       clear hw2 t1 t2
       apply AW.seq
       apply AW.sr
       iterate 4 refine AL.z ?_
       apply AL.nil
       try simp only [nd]
       refine AW.condF rfl ?_
       refine AW.exit ?_
       try simp only [thenS, inBlockS, ↓reduceIte, Nat.reduceEqDiff]
       apply AW.seq
       apply AW.sr
       iterate 2 refine AL.z ?_
       apply AL.nil
       try simp only [nd]
       refine AW.condF rfl ?_
       apply AW.skip
       try simp only [thenS]
       apply AW.region
       iterate 9 refine AL.z ?_
       refine AL.rp rfl rfl (rp_build (vs := [(0, _), (1, _), (2, _), (3, _)]) (zs := [.d (.p (.int .i64 0)), .d (.p (.int .i64 0)), .d (.p (.int .i64 0)), .d (.p (.int .i64 0))]) pl47 inf47 rfl rfl rfl rfl) ?_
       refine AL.sm rfl (sm_slice (vs := [(0, _)]) (zs := [.d (.p (.int .i64 0)), .d (.p (.int .i64 0)), .d (.p (.int .i64 0)), .d (.p (.int .i64 0))]) 130 Tryz.underlying33 inf47 rfl rfl zT14 zT14 zT14 rfl rfl rfl rfl zT1 rfl rfl) ?_
       refine AL.st rfl (st_appendF Tryz.underlying33 inf47 rfl zT14 rfl rfl rfl rfl rfl rfl zT5 zT1 rfl rfl rfl rfl rfl rfl rfl zT14 zT15 zT15 rfl) ?_
       simp only [S.forget, S.put, S.newObj, junkIf, V.has, V.hasL, nh, hasL_flat, hasL_append, List.map_cons, List.map_nil, List.filter_cons, List.filter_nil, Nat.reduceBNe, Nat.reduceBEq, eq_self, bne_self_eq_false,  Bool.not_true, Bool.not_false, Bool.or_false, Bool.or_true, Bool.false_or, Bool.true_or, if_true, if_false, Bool.false_eq_true, ite_true, ite_false, ↓reduceIte, beq_self_eq_true, Nat.reduceEqDiff]
       refine AL.z ?_
       (refine AL.st rfl (st_store inf33 rfl rfl rfl rfl rfl rfl rfl zT7 rfl) ?_)
       apply AL.nil
       try simp only [nd, setL, V.cs, nz, Nat.reduceAdd, nm, ns]
       apply AW.region
       iterate 3 refine AL.z ?_
       apply AL.nil
       try simp only [nd]
       refine ⟨_, ?_, ⟨i + 1, l', o ++ [⟨ai, ao, aw, (w : Int)⟩], by omega, hrun, hd, hll, by omega, by simp [ho], rfl⟩, ?_⟩
       ·simp only [List.flatMap_append, List.flatMap_cons, List.flatMap_nil, List.append_nil, List.length_append, List.length_cons, List.length_nil, Nat.zero_add, hlt', ho]
        exact Less.a0
       simp [S.nat, fnd]; omega
      obtain rfl : i = la := by omega
      rw [List.drop_eq_nil_of_le zT15, arcsC] at hrun
      rw [← hrun] at hbr
      simp only at hbr
      apply AW.seq
      apply AW.sr
      iterate 5 refine AL.z ?_
      apply AL.nil
      try simp only [nd]
      refine AW.condF rfl ?_
      refine AW.exit ?_
      try simp only [thenS, inBlockS, ↓reduceIte, Nat.reduceEqDiff]
      refine AW.freezeH 16 1 32 (o.map arD) rfl rfl rfl zT14 rfl rfl (by rw [List.length_map, ho]) zT15 (rowsF (enc := arD) (sz := 4) (l := o) (fun _ => rfl) rfl) ?_
      apply AW.region
      iterate 3 refine AL.z ?_
      refine AL.sm rfl (sm_slice (vs := [(0, _)]) (zs := [.d (.p (.int .i64 0)), .d (.p (.slice none 0 0))]) 136 Tryz.underlying22 inf35 rfl rfl zT14 zT14 zT14 rfl rfl rfl rfl zT1 rfl rfl) ?_
      refine AL.st rfl (st_appendF Tryz.underlying22 inf35 rfl zT14 rfl rfl rfl rfl rfl rfl zT5 zT1 rfl rfl rfl rfl rfl rfl rfl zT14 zT15 zT15 rfl) ?_
      simp only [S.forget, S.put, S.newObj, junkIf, V.has, V.hasL, nh, hasL_flat, hasL_append, List.map_cons, List.map_nil, List.filter_cons, List.filter_nil, Nat.reduceBNe, Nat.reduceBEq, eq_self, bne_self_eq_false,  Bool.not_true, Bool.not_false, Bool.or_false, Bool.or_true, Bool.false_or, Bool.true_or, if_true, if_false, Bool.false_eq_true, ite_true, ite_false, ↓reduceIte, beq_self_eq_true, Nat.reduceEqDiff]
      refine AL.z ?_
      (refine AL.st rfl (st_store inf22 rfl rfl rfl rfl rfl rfl rfl zT7 rfl) ?_)
      apply AL.nil
      try simp only [nd, setL, V.cs, nz, Nat.reduceAdd, nm, ns]
      apply AW.region
      iterate 3 refine AL.z ?_
      apply AL.nil
      try simp only [nd]
      refine ⟨μ - 1, _, ?_, ⟨l', P ++ [⟨fin, o⟩], by rw [List.length_append, hPk]; simp only [List.length_cons, List.length_nil]; omega, ?_, hd, hll, by rw [List.length_append, hPk, hlt']; simp only [List.length_cons, List.length_nil]; omega, rfl⟩, ?_⟩
      ·simp only [List.flatMap_append, List.flatMap_cons, List.flatMap_nil, List.append_nil, List.length_append, List.length_cons, List.length_nil, Nat.zero_add, hPk, hlt']
       exact Less.a0
      ·rw [List.length_append, List.length_cons, List.length_nil, hPk, show n - (k + (0 + 1)) = n - k - 1 by omega]
       exact hbr
      omega
     rw [bldC_end zT15] at hbr
     subst hbr
     apply AW.seq
     apply AW.sr
     iterate 4 refine AL.z ?_
     apply AL.nil
     try simp only [nd]
     refine AW.condF rfl ?_
     refine AW.exit ?_
     try simp only [thenS, inBlockS, ↓reduceIte, Nat.reduceEqDiff]
     apply AW.seq
     refine AW.freezeH 13 1 32 (P.map stD) rfl rfl rfl zT14 rfl rfl (by rw [List.length_map, hPk]) zT15 (rowsF (enc := stD) (sz := 2) (l := P) (fun _ => rfl) rfl) ?_
     apply AW.region
     iterate 2 refine AL.z ?_
     refine AL.y ?_
     iterate 2 refine AL.z ?_
     apply AL.nil
     try simp only [nd, setL, V.cs, nz, Nat.reduceAdd, nm, ns]
     apply AW.ret
     exact ⟨[_, _, _], ⟨⟨2, 0, _, _, rfl, rfl, rfl, Tryz.underlying24, .inr ⟨rfl, _, _, _, _, inf24, rfl, rfl, rfl⟩⟩, rfl, rfl, trivial⟩, .inr ⟨rfl, rfl⟩, by simp [tupOf, V.pure, V.has, V.hasL]⟩
    have hpush'' := hpush.mono fun v hv => show v = .tup [.agg [.i 0, .nil], .i 0, .i (pushE m)] by
     rcases hv with ⟨_, hv⟩ | ⟨h1, _⟩
     ·exact hv
     exact absurd h1 hpe
    rw [hE]
    obtain ⟨e, he⟩ : ∃ e, pushE m = e := ⟨_, rfl⟩
    rw [he] at hpe hpush'' ⊢
    clear hE h0 hdi hfl hpush he
    obtain ⟨st, sts⟩ := m
    refine Fn.intro (n := 141) ⟨Tryz.func8, rfl, rfl, rfl, rfl⟩ zT8 zT16 fun w0 out => ?_
    apply AW.sr
    refine AL.sm rfl (sm_box 1 rfl rfl rfl rfl rfl) ?_
    refine AL.sm rfl (sm_alloc (l := [.d (.p (.int .i64 0)), .d (.p (.slice none 0 0))]) 2 inf24 rfl rfl rfl rfl) ?_
    iterate 2 refine AL.z ?_
    apply AL.nil
    try simp only [nd, setL, V.cs, nz, Nat.reduceAdd, nm, ns, enum]
    apply AW.sr
    refine AL.z ?_
    refine AL.call (post := ?pc9) rfl (sm_call (args := [_]) ?hc9 ⟨Tryz.func19, rfl, rfl, rfl, rfl⟩ rfl rfl rfl rfl) ?_
    case hc9 => exact hlike
    rintro _ rfl -
    try dsimp only
    iterate 3 refine AL.z ?_
    refine AL.sm rfl (sm_alloc (l := [.d (.p (.bool false)), .d (.p (.bool false)), .d (.p (.bool false)), .d (.p (.bool false)), .d (.p (.bool false))]) 5 inf37 rfl rfl rfl rfl) ?_
    refine AL.y ?_
    refine AL.z ?_
    apply AL.nil
    try simp only [nd, setL, V.cs, nz, Nat.reduceAdd, nm, ns]
    apply AW.seq
    apply AW.sr
    iterate 2 refine AL.z ?_
    apply AL.nil
    try simp only [nd]
    refine AW.condF rfl ?_
    apply AW.skip
    try simp only [thenS]
    apply AW.seq
    apply AW.sr
    iterate 3 refine AL.z ?_
    apply AL.nil
    try simp only [nd]
    refine AW.condF rfl ?_
    apply AW.skip
    try simp only [thenS]
    apply AW.seq
    apply AW.sr
    iterate 3 refine AL.z ?_
    apply AL.nil
    try simp only [nd]
    refine AW.condF rfl ?_
    apply AW.skip
    try simp only [thenS]
    apply AW.sr
    refine AL.z ?_
    refine AL.call (post := ?pc10) rfl (sm_call (args := [_]) ?hc10 ⟨Tryz.func20, rfl, rfl, rfl, rfl⟩ rfl rfl rfl rfl) ?_
    case hc10 => exact hpush''
    rintro _ rfl -
    try dsimp only
    iterate 4 refine AL.z ?_
    refine AL.sm rfl (sm_alloc (l := [.d (.p (.int .i64 0)), .d (.p (.slice none 0 0))]) 7 inf24 rfl rfl rfl rfl) ?_
    refine AL.y ?_
    iterate 2 refine AL.z ?_
    apply AL.nil
    try simp only [nd, setL, V.cs, nz, Nat.reduceAdd, nm, ns]
    apply AW.seq
    apply AW.sr
    iterate 2 refine AL.z ?_
    apply AL.nil
    try simp only [nd]
    refine AW.condT rfl ?_
    apply AW.sr
    refine AL.rp rfl rfl (rp_build (vs := []) (zs := [.d (.p (.int .i64 0)), .d (.p (.slice none 0 0))]) pl24 inf24 rfl rfl rfl rfl) ?_
    refine AL.z ?_
    refine AL.y ?_
    iterate 2 refine AL.z ?_
    apply AL.nil
    try simp only [nd, setL, V.cs, nz, Nat.reduceAdd, nm, ns]
    apply AW.ret
    exact ⟨[_, _, _], ⟨⟨2, 0, _, _, rfl, rfl, rfl, Tryz.underlying24, .inr ⟨rfl, _, _, _, _, inf24, rfl, rfl, rfl⟩⟩, rfl, rfl, trivial⟩, .inl ⟨hpe, rfl⟩, by simp [tupOf, V.pure, V.has, V.hasL]⟩
 have hE : leE m = machE m := by unfold leE; rw [if_pos h0]
 rw [prV_no h0] at hlike
 rw [hE]
 obtain ⟨e, he⟩ : ∃ e, machE m = e := ⟨_, rfl⟩
 rw [he] at hlike h0 ⊢
 obtain ⟨st, sts⟩ := m
 refine Fn.intro (n := 141) ⟨Tryz.func8, rfl, rfl, rfl, rfl⟩ zT8 zT16 fun w0 out => ?_
 apply AW.sr
 refine AL.sm rfl (sm_box 1 rfl rfl rfl rfl rfl) ?_
 refine AL.sm rfl (sm_alloc (l := [.d (.p (.int .i64 0)), .d (.p (.slice none 0 0))]) 2 inf24 rfl rfl rfl rfl) ?_
 iterate 2 refine AL.z ?_
 apply AL.nil
 try simp only [nd, setL, V.cs, nz, Nat.reduceAdd, nm, ns, enum]
 apply AW.sr
 refine AL.z ?_
 refine AL.call (post := ?pc11) rfl (sm_call (args := [_]) ?hc11 ⟨Tryz.func19, rfl, rfl, rfl, rfl⟩ rfl rfl rfl rfl) ?_
 case hc11 => exact hlike
 rintro _ rfl -
 try dsimp only
 iterate 3 refine AL.z ?_
 refine AL.sm rfl (sm_alloc (l := [.d (.p (.bool false)), .d (.p (.bool false)), .d (.p (.bool false)), .d (.p (.bool false)), .d (.p (.bool false))]) 5 inf37 rfl rfl rfl rfl) ?_
 refine AL.y ?_
 refine AL.z ?_
 apply AL.nil
 try simp only [nd, setL, V.cs, nz, Nat.reduceAdd, nm, ns]
 apply AW.seq
 apply AW.sr
 iterate 2 refine AL.z ?_
 apply AL.nil
 try simp only [nd]
 refine AW.condT rfl ?_
 apply AW.sr
 refine AL.rp rfl rfl (rp_build (vs := []) (zs := [.d (.p (.int .i64 0)), .d (.p (.slice none 0 0))]) pl24 inf24 rfl rfl rfl rfl) ?_
 refine AL.z ?_
 refine AL.y ?_
 iterate 2 refine AL.z ?_
 apply AL.nil
 try simp only [nd, setL, V.cs, nz, Nat.reduceAdd, nm, ns]
 apply AW.ret
 exact ⟨[_, _, _], ⟨⟨2, 0, _, _, rfl, rfl, rfl, Tryz.underlying24, .inr ⟨rfl, _, _, _, _, inf24, rfl, rfl, rfl⟩⟩, rfl, rfl, trivial⟩, .inl ⟨h0, rfl⟩, by simp [tupOf, V.pure, V.has, V.hasL]⟩
theorem am_Leasted (m : Mach) : Fn Tryz.prog 8 [mV m] (fun v => v = .tup [mV (leM m), .i (leV m), .i (leE m)]) := (am_Leasted0 m).wkS (resQ_wk le_none)
theorem cmp_neq_47F {c : Cx} {s : S} {o : Oper} {t' : TypeId} {x y : Operand} {a b : Ar} (hP : c.P = Tryz.prog) (ho : o.op = .binOp .neq 47 x y t') (hx : s.ev x = some (.agg ((arD a).map V.d))) (hy : s.ev y = some (.agg ((arD b).map V.d))) (h : a = b) : RP c o s (.b false) := by
 subst h
 refine rp_bin_agg [.int .i64 a.i, .int .i64 a.o, .int .i64 a.w, .int .i64 a.t] [.int .i64 a.i, .int .i64 a.o, .int .i64 a.w, .int .i64 a.t] ho hx hy (fun w => ?_) (fun w => ?_)
 ·rw [hP]; simp [go_sem]
 rw [hP]; simp [go_sem]
theorem am_SameArcs (l : List Ar) : Fn Tryz.prog 51 [.d (arsD l), .d (arsD l)] (fun v => v = .b true) := by
 refine Fn.sl 0 rfl fun hb => ?_
 obtain ⟨n, hn⟩ : ∃ n, l.length = n := ⟨_, rfl⟩
 rw [List.length_map, hn] at hb
 refine Fn.intro (n := 26) ⟨Tryz.func51, rfl, rfl, rfl, rfl⟩ zT8 zT16 fun w0 out => ?_
 apply AW.sr
 refine AL.z ?_
 apply AL.nil
 try simp only [thenS, S.put, enum, List.nil_append, List.cons_append, List.append_nil, Nat.zero_add, Nat.reduceAdd]
 apply AW.seq
 apply AW.sr
 iterate 5 refine AL.z ?_
 apply AL.nil
 try simp only [nd]
 refine AW.condF rfl ?_
 apply AW.skip
 try simp only [thenS]
 apply AW.seq
 apply AW.sr
 refine AL.z ?_
 apply AL.nil
 try simp only [nd]
 apply AW.block
 refine AW.loop (fun s' => ∃ k : Nat, k ≤ n ∧ s' = ⟨26, [(0, .d (arsD l)), (1, .d (arsD l)), (5, .i k)], [], []⟩) (fun s' => n - s'.nat 5) ⟨_, ?_, 0, by omega, rfl⟩ ?_
 ·exact Less.a0
 rintro s' ⟨k, hk, rfl⟩
 by_cases hlt : k < n
 ·obtain ⟨x, hx⟩ := get_lt hn hlt
  apply AW.seq
  apply AW.sr
  iterate 4 refine AL.z ?_
  apply AL.nil
  try simp only [nd]
  refine AW.condT rfl ?_
  apply AW.skip
  try simp only [thenS]
  apply AW.seq
  apply AW.block
  apply AW.seq
  refine AW.draw [(0, true), (1, true), (2, true), (3, true), (4, true), (5, true), (6, true), (7, true), (8, true)] (fun i => !([] : List Nat).contains i) 9 zT12 zT12 rfl zT12 ?_
  iterate 8 refine AD1.z ?_
  refine AD1.rp rfl rfl rfl (fun _ _ h => h) (cmp_neq_47F rfl rfl rfl rfl (by first | assumption | rfl)) ?_
  refine AD1.nil ?_
  try simp only [nd]
  refine AW.condF rfl ?_
  apply AW.skip
  try simp only [thenS]
  apply AW.region
  iterate 3 refine AL.z ?_
  apply AL.nil
  try simp only [nd]
  refine ⟨_, ?_, ⟨k + 1, by omega, rfl⟩, ?_⟩
  ·exact Less.a0
  simp [S.nat, fnd]; omega
 skip
 apply AW.seq
 apply AW.sr
 iterate 4 refine AL.z ?_
 apply AL.nil
 try simp only [nd]
 refine AW.condF rfl ?_
 refine AW.exit ?_
 try simp only [thenS, inBlockS, ↓reduceIte, Nat.reduceEqDiff]
 apply AW.sr
 refine AL.z ?_
 apply AL.nil
 try simp only [nd]
 apply AW.ret
 exact ⟨[_], ⟨rfl, trivial⟩, rfl, by simp [tupOf, V.pure, V.has]⟩
theorem am_SameMachine (m : Mach) : Fn Tryz.prog 23 [mV m, mV m] (fun v => v = .b true) := by
 refine Fn.mach m 0 rfl fun hb _ => ?_
 obtain ⟨st, sts⟩ := m
 obtain ⟨n, hn⟩ : ∃ n, sts.length = n := ⟨_, rfl⟩
 simp only [hn] at hb
 refine Fn.intro (n := 56) ⟨Tryz.func23, rfl, rfl, rfl, rfl⟩ zT8 zT16 fun w0 out => ?_
 apply AW.sr
 refine AL.sm rfl (sm_box 2 rfl rfl rfl rfl rfl) ?_
 refine AL.sm rfl (sm_box 3 rfl rfl rfl rfl rfl) ?_
 refine AL.z ?_
 apply AL.nil
 try simp only [nd, setL, V.cs, nz, Nat.reduceAdd, nm, ns, enum]
 apply AW.seq
 apply AW.sr
 iterate 6 refine AL.z ?_
 iterate 7 refine AL.zy ?_
 refine AL.z ?_
 apply AL.nil
 try simp only [nd]
 refine AW.condF rfl ?_
 apply AW.skip
 try simp only [thenS]
 apply AW.seq
 apply AW.sr
 refine AL.z ?_
 apply AL.nil
 try simp only [nd]
 apply AW.block
 refine AW.loop (fun s' => ∃ k : Nat, k ≤ n ∧ s' = ⟨56, [(2, .ref 2 0), (3, .ref 3 0), (5, .i k)], [(2, ⟨24, [.i st, .d (stsD sts)], false, 0⟩), (3, ⟨24, [.i st, .d (stsD sts)], false, 0⟩)], []⟩) (fun s' => n - s'.nat 5) ⟨_, ?_, 0, by omega, rfl⟩ ?_
 ·exact Less.a0
 rintro s' ⟨k, hk, rfl⟩
 by_cases hlt : k < n
 ·obtain ⟨x, hx⟩ := get_lt hn hlt
  apply AW.seq
  apply AW.sr
  iterate 5 refine AL.z ?_
  apply AL.nil
  try simp only [nd]
  refine AW.condT rfl ?_
  apply AW.skip
  try simp only [thenS]
  apply AW.seq
  apply AW.block
  apply AW.seq
  refine AW.draw [(0, true), (1, true), (2, true), (3, true), (4, true), (5, true), (6, true), (7, true), (8, true), (9, true), (10, true), (11, true), (12, true), (13, true), (14, true), (15, true), (16, true), (17, true), (18, true), (19, true), (20, true), (21, true), (22, true), (23, true), (24, true), (25, true), (26, false), (27, false), (28, false)] (fun i => !([] : List Nat).contains i) 29 zT12 zT12 rfl zT12 ?_
  iterate 14 refine AD1.z ?_
  iterate 12 refine AD1.zy ?_
  refine AD1.go ?_
  (refine AD2.cally (post := ?pc63) rfl rfl rfl (sm_call (args := [_, _]) ?hc63 ⟨Tryz.func51, rfl, rfl, rfl, rfl⟩ rfl rfl rfl rfl) ?_; (case hc63 => (exact am_SameArcs _)); rintro _ rfl -; try dsimp only)
  refine AD2.rp1y rfl rfl rfl rfl (rp_not rfl rfl) ?_
  refine AD2.rp1 rfl rfl rfl (rp_pick rfl rfl rfl) ?_
  refine AD2.nil ?_
  try simp only [nd, setL, V.cs, nz, Nat.reduceAdd, nm, ns]
  refine AW.condF rfl ?_
  apply AW.skip
  try simp only [thenS]
  apply AW.region
  iterate 3 refine AL.z ?_
  apply AL.nil
  try simp only [nd]
  refine ⟨_, ?_, ⟨k + 1, by omega, rfl⟩, ?_⟩
  ·exact Less.a0
  simp [S.nat, fnd]; omega
 skip
 apply AW.seq
 apply AW.sr
 iterate 5 refine AL.z ?_
 apply AL.nil
 try simp only [nd]
 refine AW.condF rfl ?_
 refine AW.exit ?_
 try simp only [thenS, inBlockS, ↓reduceIte, Nat.reduceEqDiff]
 apply AW.sr
 refine AL.z ?_
 apply AL.nil
 try simp only [nd]
 apply AW.ret
 exact ⟨[_], ⟨rfl, trivial⟩, rfl, by simp [tupOf, V.pure, V.has]⟩
theorem am_sameMachine (m : Mach) : Fn Tryz.prog 9 [mV m, mV m] (fun v => v = .b true) := by
 refine Fn.intro (n := 8) ⟨Tryz.func9, rfl, rfl, rfl, rfl⟩ zT8 zT16 fun w0 out => ?_
 apply AW.sr
 refine AL.sm rfl (sm_box 2 rfl rfl rfl rfl rfl) ?_
 refine AL.sm rfl (sm_box 3 rfl rfl rfl rfl rfl) ?_
 refine AL.z ?_
 apply AL.nil
 try simp only [nd, setL, V.cs, nz, Nat.reduceAdd, nm, ns, enum]
 apply AW.sr
 iterate 2 refine AL.z ?_
 refine AL.call (post := ?pc64) rfl (sm_call (args := [_, _]) ?hc64 ⟨Tryz.func23, rfl, rfl, rfl, rfl⟩ rfl rfl rfl rfl) ?_
 case hc64 => exact am_SameMachine _
 rintro _ rfl -
 try dsimp only
 refine AL.z ?_
 apply AL.nil
 try simp only [nd, setL, V.cs, nz, Nat.reduceAdd, nm, ns]
 apply AW.ret
 exact ⟨[_], ⟨rfl, trivial⟩, rfl, by simp [tupOf, V.pure, V.has]⟩
abbrev stV (s : St) : List V := (stD s).map V.d
theorem am_machine (m : Mach) : Fn Tryz.prog 6 [mV m] (fun v => v = mV m) := by
 refine Fn.mach m 0 rfl fun hb _ => ?_
 obtain ⟨st, sts⟩ := m
 obtain ⟨n, hn⟩ : ∃ n, sts.length = n := ⟨_, rfl⟩
 simp only [hn] at hb
 refine Fn.intro (n := 35) ⟨Tryz.func6, rfl, rfl, rfl, rfl⟩ zT8 zT16 fun w0 out => ?_
 apply AW.sr
 refine AL.sm rfl (sm_box 1 rfl rfl rfl rfl rfl) ?_
 refine AL.sm rfl (sm_alloc (l := [.d (.p (.int .i64 0)), .d (.p (.slice none 0 0))]) 2 inf24 rfl rfl rfl rfl) ?_
 apply AL.nil
 try simp only [nd, setL, V.cs, nz, Nat.reduceAdd, nm, ns, enum]
 apply AW.sr
 iterate 2 refine AL.z ?_
 refine AL.rp rfl rfl (rp_build (vs := [(0, _)]) (zs := [.d (.p (.int .i64 0)), .d (.p (.slice none 0 0))]) pl24 inf24 rfl rfl rfl rfl) ?_
 refine AL.sm rfl (sm_alloc (l := [.d (.p (.int .i64 0)), .d (.p (.slice none 0 0))]) 3 inf24 rfl rfl rfl rfl) ?_
 refine AL.y ?_
 apply AL.nil
 try simp only [nd, setL, V.cs, nz, Nat.reduceAdd, nm, ns]
 apply AW.seq
 apply AW.sr
 refine AL.z ?_
 apply AL.nil
 try simp only [nd]
 apply AW.block
 refine AW.adoptH 3 1 100 2 35 rfl rfl rfl zT4 ?_
 refine AW.loop (fun s' => ∃ k : Nat, k ≤ n ∧ s' = ⟨35, [(1, .ref 1 0), (2, .ref 2 0), (3, .ref 3 0), (4, .i k)], [(1, ⟨24, [.i st, .d (stsD sts)], false, 0⟩), (2, ⟨24, [.i 0, .nil], false, 0⟩),
  (3, ⟨24, [.i st, .own 100 2 k (decide (k = 0))], false, 0⟩), (100, ⟨35, (sts.take k).flatMap stV, decide (k = 0), 2⟩)], []⟩) (fun s' => n - s'.nat 4) ⟨_, ?_, 0, by omega, rfl⟩ ?_
 ·exact Less.a0
 rintro s' ⟨k, hk, rfl⟩
 by_cases hlt : k < n
 ·obtain ⟨x, hx⟩ := get_lt hn hlt
  have hfl : ((sts.take k).flatMap stV).length = k * 2 := by rw [flat_len (sz := 2) (fun _ => rfl), List.length_take]; omega
  have hsn : (sts.take (k + 1)).flatMap stV = (sts.take k).flatMap stV ++ stV x := by rw [take_snoc hx]; simp
  apply AW.seq
  apply AW.sr
  iterate 5 refine AL.z ?_
  apply AL.nil
  try simp only [nd]
  refine AW.condT rfl ?_
  apply AW.skip
  try simp only [thenS]
  apply AW.seq
  apply AW.block
  refine AW.draw [(0, true), (1, true), (2, true), (3, true), (4, true), (5, true), (6, true), (7, true), (8, true), (9, true), (10, true), (11, true), (12, true), (13, true), (14, false), (15, false), (16, false), (17, false), (18, false), (19, false)] (fun i => !([17, 18, 19] : List Nat).contains i) 20 zT12 zT12 rfl zT12 ?_
  iterate 14 refine AD1.z ?_
  refine AD1.go ?_
  refine AD2.sm rfl rfl (sm_clone Tryz.underlying33 inf47 rfl zT14 zT14 zT14 rfl rfl rfl (by first | (simp [arD, D.one, Value.oneCell']; done) | assumption) rfl) ?_
  refine AD2.rp1 rfl rfl rfl (rp_build (vs := [(0, _), (1, _)]) (zs := [.d (.p (.int .i64 0)), .d (.p (.slice none 0 0))]) pl35 inf35 rfl rfl rfl rfl) ?_
  refine AD2.sm rfl rfl (sm_slice (vs := [(0, _)]) (zs := [.d (.p (.int .i64 0)), .d (.p (.slice none 0 0))]) 31 Tryz.underlying22 inf35 rfl rfl zT14 zT14 zT14 rfl rfl rfl rfl zT1 rfl rfl) ?_
  refine AD2.go ?_
  refine AD3.st rfl rfl rfl (st_appendF Tryz.underlying22 inf35 rfl zT14 rfl rfl rfl rfl rfl rfl zT5 zT1 rfl rfl rfl rfl rfl rfl rfl zT14 zT15 zT15 rfl) ?_
  simp only [S.forget, S.put, S.newObj, junkIf, V.has, V.hasL, nh, hasL_flat, hasL_append, List.map_cons, List.map_nil, List.filter_cons, List.filter_nil, Nat.reduceBNe, Nat.reduceBEq, eq_self, bne_self_eq_false,  Bool.not_true, Bool.not_false, Bool.or_false, Bool.or_true, Bool.false_or, Bool.true_or, if_true, if_false, Bool.false_eq_true, ite_true, ite_false, ↓reduceIte, beq_self_eq_true, Nat.reduceEqDiff]
  refine AD3.rp1 rfl rfl rfl rfl (rp_field_ref Tryz.underlying24 rfl rfl rfl inf22 zT14 rfl) ?_
  (refine AD3.st rfl rfl rfl (st_store inf22 rfl rfl rfl rfl rfl rfl rfl zT7 rfl) ?_)
  refine AD3.nil ?_
  try simp only [nd, setL, V.cs, nz, Nat.reduceAdd, nm, ns]
  apply AW.region
  iterate 3 refine AL.z ?_
  apply AL.nil
  try simp only [nd]
  refine ⟨_, ?_, ⟨k + 1, by omega, rfl⟩, ?_⟩
  ·rw [hsn]; exact Less.a0
  simp [S.nat, fnd]; omega
 skip
 apply AW.seq
 apply AW.sr
 iterate 5 refine AL.z ?_
 apply AL.nil
 try simp only [nd]
 refine AW.condF rfl ?_
 refine AW.exit ?_
 try simp only [thenS, inBlockS, ↓reduceIte, Nat.reduceEqDiff]
 apply AW.seq
 obtain rfl : k = n := by omega
 rw [List.take_of_length_le zT15]
 refine AW.freezeH 3 1 32 (sts.map stD) rfl rfl rfl zT14 rfl rfl (by simpa using hn) zT15 (rowsF (enc := stD) (sz := 2) (l := sts) (fun _ => rfl) rfl) ?_
 apply AW.region
 refine AL.z ?_
 refine AL.y ?_
 apply AL.nil
 try simp only [nd, setL, V.cs, nz, Nat.reduceAdd, nm, ns]
 apply AW.ret
 exact ⟨[_], ⟨⟨2, 0, _, _, rfl, rfl, rfl, Tryz.underlying24, .inr ⟨rfl, _, _, _, _, inf24, rfl, rfl, rfl⟩⟩, trivial⟩, rfl, by simp [tupOf, V.pure, V.has, V.hasL]⟩
end Go.Proofs.YthiknkcigcglkaaGreatDoor
