/- Part 11 of what the law CertainMakes rests on. -/
import Derived.Test.YthiknkcigcglkaaDoorPkCe1
import Derived.Test.YthiknkcigcglkaaDoorPkCe2
import Derived.Test.YthiknkcigcglkaaDoorPkCe3
import Derived.Test.YthiknkcigcglkaaDoorPkCe4
import Derived.Test.YthiknkcigcglkaaDoorPkCe5
import Derived.Test.YthiknkcigcglkaaDoorPkCe6
import Derived.Test.YthiknkcigcglkaaDoorPkCe7
import Derived.Test.YthiknkcigcglkaaDoorPkCe8
import Derived.Test.YthiknkcigcglkaaDoorPkCe9
import Derived.Test.YthiknkcigcglkaaDoorPkCe10
namespace Go.Proofs.YthiknkcigcglkaaDoor
open Go.RowKit
set_option linter.unusedSimpArgs false
set_option linter.unusedVariables false
set_option maxRecDepth 100000
set_option maxHeartbeats 8000000
abbrev sD (d : List Nat) : D := .sl 1 8 (d.map encN)
theorem mnL_le {l : List Nat} {x : Nat} (h : x ∈ l) : mnL l ≤ x := by
 have key : ∀ (l : List Nat) (n : Nat), (l.foldl (fun n x => if x < n then x else n) n ≤ n) ∧ ∀ x ∈ l, l.foldl (fun n x => if x < n then x else n) n ≤ x := by
  intro l
  induction l with
  | nil => intro n; exact ⟨Nat.le_refl _, fun x hx => by cases hx⟩
  | cons y l ih =>
   intro n
   rw [List.foldl_cons]
   obtain ⟨h1, h2⟩ := ih (if y < n then y else n)
   refine ⟨Nat.le_trans h1 (by split <;> omega), fun x hx => ?_⟩
   rcases List.mem_cons.1 hx with rfl | hx
   ·exact Nat.le_trans h1 (by split <;> omega)
   exact h2 x hx
 exact (key l big).2 x h
theorem prS_len (sts : List St) (d : List Nat) : (prS sts d).length ≤ arcN sts := by
 have h1 := prL_len (inO (prA sts d d.length)) (prA sts d d.length).length
 have h2 := prA_len sts d d.length
 have h3 : arcN (sts.take d.length) ≤ arcN sts := by
  conv => rhs; rw [← List.take_append_drop d.length sts]
  unfold arcN
  rw [List.map_append, List.sum_append]
  omega
 unfold prS
 omega
theorem upK {u q j K : Nat} (h : u ≤ q * K + K) (h1 : q + 1 ≤ j) : u ≤ j * K := Nat.le_trans (by rw [Nat.succ_mul]; exact h : u ≤ (q + 1) * K) (Nat.mul_le_mul_right K h1)
theorem up9 {u q j : Nat} (h : u = big ∨ u ≤ q * 1000000000 + 1000000000) (h1 : q + 1 ≤ j) : u = big ∨ u ≤ j * 1000000000 := by
 rcases h with h | h
 ·exact .inl h
 exact .inr (upK h h1)
/-- An answer: a machine, or what is wrong. -/
def resE (e : Int) (M : Mach) (v : V) : Prop := e ≠ 0 ∧ v = .tup [.agg [.i 0, .nil], .i e] ∨ e = 0 ∧ (v = .tup [mV M, .i 0] ∨ M.states = [] ∧ v = .tup [.agg [.i M.start, .nil], .i 0])
theorem ceE_neg {m : Mach} (h0 : machE m = 0) (hf : bFl m.states = true) (hs : m.start < 0) : ceE m = 0 ∧ ceM m = ⟨-1, []⟩ := by
 have h : ceE m = 0 := by unfold ceE; rw [if_neg (by simp [h0]), if_neg (by simp [hf]), if_pos hs]
 exact ⟨h, by unfold ceM; rw [if_neg (by simp [h]), if_pos hs]⟩
theorem ceE_run {m : Mach} {e : Int} {P : List St} (h0 : machE m = 0) (hf : bFl m.states = true) (hs : ¬ m.start < 0) (hr : ceRun m = (e, P)) : ceE m = e ∧ (e = 0 → ceM m = ⟨0, P⟩) := by
 have h : ceE m = e := by unfold ceE; rw [if_neg (by simp [h0]), if_neg (by simp [hf]), if_neg hs, hr]
 refine ⟨h, fun he => ?_⟩
 unfold ceM
 rw [if_neg (by simp [h, he]), if_neg hs, hr]
theorem am_Certained0 (m : Mach) : Fn Tryd.prog 6 [mV m] (fun v => resE (ceE m) (ceM m) v) := by
 have hlike := am_Like m
 have hbig := big_eq
 by_cases h0 : machE m = 0
 ·rw [prV_ok h0, h0] at hlike
  cases hfl : bFl m.states with
  | false =>
   have hE : ceE m = 7 := by unfold ceE; rw [if_neg (by simp [h0]), if_pos hfl]
   rw [hE]
   rw [hfl] at hlike
   clear hE h0 hfl
   obtain ⟨st, sts⟩ := m
   refine Fn.intro (n := 231) ⟨Tryd.func6, rfl, rfl, rfl, rfl⟩ zT8 zT14 fun w0 out => ?_
   apply AW.sr
   refine AL.sm rfl (sm_box 1 rfl rfl rfl rfl rfl) ?_
   refine AL.sm rfl (sm_alloc (l := [.d (.p (.int .i64 0)), .d (.p (.slice none 0 0))]) 2 inf24 rfl rfl rfl rfl) ?_
   refine AL.z ?_
   apply AL.nil
   try simp only [nd, setL, V.cs, nz, Nat.reduceAdd, nm, ns, enum]
   apply AW.sr
   refine AL.z ?_
   refine AL.call (post := ?pc0) rfl (sm_call (args := [_]) ?hc0 ⟨Tryd.func16, rfl, rfl, rfl, rfl⟩ rfl rfl rfl rfl) ?_
   case hc0 => exact hlike
   rintro _ rfl -
   try dsimp only
   iterate 3 refine AL.z ?_
   refine AL.sm rfl (sm_alloc (l := [.d (.p (.bool false)), .d (.p (.bool false)), .d (.p (.bool false)), .d (.p (.bool false)), .d (.p (.bool false))]) 4 inf35 rfl rfl rfl rfl) ?_
   refine AL.y ?_
   refine AL.z ?_
   apply AL.nil
   try simp only [nd, setL, V.cs, nz, Nat.reduceAdd, nm, ns]
   apply AW.seq
   apply AW.sr
   iterate 2 refine AL.z ?_
   apply AL.nil
   try simp only [nd]
   refine AW.condF rfl ?_
   apply AW.skip
   try simp only [thenS]
   apply AW.seq
   apply AW.sr
   iterate 3 refine AL.z ?_
   apply AL.nil
   try simp only [nd]
   refine AW.condT rfl ?_
   apply AW.sr
   refine AL.rp rfl rfl (rp_build (vs := []) (zs := [.d (.p (.int .i64 0)), .d (.p (.slice none 0 0))]) pl24 inf24 rfl rfl rfl rfl) ?_
   refine AL.y ?_
   refine AL.z ?_
   apply AL.nil
   try simp only [nd, setL, V.cs, nz, Nat.reduceAdd, nm, ns]
   apply AW.ret
   exact ⟨[_, _], ⟨⟨2, 0, _, _, rfl, rfl, rfl, Tryd.underlying24, .inr ⟨rfl, _, _, _, _, inf24, rfl, rfl, rfl⟩⟩, rfl, trivial⟩, .inl ⟨by decide, rfl⟩, by simp [tupOf, V.pure, V.has, V.hasL]⟩
  | true =>
   rw [hfl] at hlike
   by_cases hneg : m.start < 0
   ·obtain ⟨hE, hM⟩ := ceE_neg h0 hfl hneg
    rw [hE, hM]
    clear hE hM h0 hfl
    obtain ⟨st, sts⟩ := m
    simp only at hneg
    refine Fn.intro (n := 231) ⟨Tryd.func6, rfl, rfl, rfl, rfl⟩ zT8 zT14 fun w0 out => ?_
    apply AW.sr
    refine AL.sm rfl (sm_box 1 rfl rfl rfl rfl rfl) ?_
    refine AL.sm rfl (sm_alloc (l := [.d (.p (.int .i64 0)), .d (.p (.slice none 0 0))]) 2 inf24 rfl rfl rfl rfl) ?_
    refine AL.z ?_
    apply AL.nil
    try simp only [nd, setL, V.cs, nz, Nat.reduceAdd, nm, ns, enum]
    apply AW.sr
    refine AL.z ?_
    refine AL.call (post := ?pc1) rfl (sm_call (args := [_]) ?hc1 ⟨Tryd.func16, rfl, rfl, rfl, rfl⟩ rfl rfl rfl rfl) ?_
    case hc1 => exact hlike
    rintro _ rfl -
    try dsimp only
    iterate 3 refine AL.z ?_
    refine AL.sm rfl (sm_alloc (l := [.d (.p (.bool false)), .d (.p (.bool false)), .d (.p (.bool false)), .d (.p (.bool false)), .d (.p (.bool false))]) 4 inf35 rfl rfl rfl rfl) ?_
    refine AL.y ?_
    refine AL.z ?_
    apply AL.nil
    try simp only [nd, setL, V.cs, nz, Nat.reduceAdd, nm, ns]
    apply AW.seq
    apply AW.sr
    iterate 2 refine AL.z ?_
    apply AL.nil
    try simp only [nd]
    refine AW.condF rfl ?_
    apply AW.skip
    try simp only [thenS]
    apply AW.seq
    apply AW.sr
    iterate 3 refine AL.z ?_
    apply AL.nil
    try simp only [nd]
    refine AW.condF rfl ?_
    apply AW.skip
    try simp only [thenS]
    apply AW.seq
    apply AW.sr
    iterate 3 refine AL.z ?_
    apply AL.nil
    try simp only [nd]
    refine AW.condT rfl ?_
    apply AW.sr
    refine AL.rp rfl rfl (rp_build (vs := [(0, _)]) (zs := [.d (.p (.int .i64 0)), .d (.p (.slice none 0 0))]) pl24 inf24 rfl rfl rfl rfl) ?_
    refine AL.y ?_
    refine AL.z ?_
    apply AL.nil
    try simp only [nd, setL, V.cs, nz, Nat.reduceAdd, nm, ns]
    apply AW.ret
    exact ⟨[_, _], ⟨⟨2, 0, _, _, rfl, rfl, rfl, Tryd.underlying24, .inr ⟨rfl, _, _, _, _, inf24, rfl, rfl, rfl⟩⟩, rfl, trivial⟩, .inr ⟨rfl, .inr ⟨rfl, rfl⟩⟩, by simp [tupOf, V.pure, V.has, V.hasL]⟩
   obtain ⟨e, P0, hrun⟩ : ∃ e P, ceRun m = (e, P) := ⟨_, _, rfl⟩
   obtain ⟨hE, hM⟩ := ceE_run h0 hfl hneg hrun
   rw [hE]
   obtain ⟨M, hMd⟩ : ∃ M, ceM m = M := ⟨_, rfl⟩
   rw [hMd] at hM ⊢
   obtain ⟨z60, z400, zst, zok⟩ := machE_zero h0
   have hx4 : ∀ x ∈ m.states, x.arcs.length ≤ 400 := fun x hx => Nat.le_trans (arc_le hx) z400
   clear hMd h0 hfl hE
   obtain ⟨st, sts⟩ := m
   simp only at hneg z60 z400 zst zok hx4
   obtain ⟨s, rfl⟩ := Int.eq_ofNat_of_zero_le (show 0 ≤ st by omega)
   obtain ⟨n, hn⟩ : ∃ n, sts.length = n := ⟨_, rfl⟩
   have hr0 : cerR sts 61 [ceOne n s] 0 [] = (e, P0) := by
    unfold ceRun at hrun
    simp only [Int.toNat_natCast] at hrun
    rw [hn] at hrun
    exact hrun
   clear hrun
   have hwok : ∀ x ∈ sts, ∀ a ∈ x.arcs, a.w ≤ 1000000000 := fun x hx a ha => by
    have h1 := (zok x hx).2 a ha
    simp only [arOk, decide_eq_true_eq] at h1
    omega
   rw [hn] at z60 zst zok
   have hsn : s < n := by omega
   have hpairs := fun (d : List Nat) (hd : d.length = n) => am_pairs (s : Int) sts d n z60 z400 hn hd
   have hbeh := fun (d : List Nat) (i o : Int) (hd : d.length = n) (hb : ∀ x ∈ d, x = big ∨ x ≤ 1000000000000) => am_behind (s : Int) sts d i o n z60 hn hd hb hx4 fun x hx => (zok x hx).2
   refine Fn.intro (n := 231) ⟨Tryd.func6, rfl, rfl, rfl, rfl⟩ zT8 zT14 fun w0 out => ?_
   apply AW.sr
   refine AL.sm rfl (sm_box 1 rfl rfl rfl rfl rfl) ?_
   refine AL.sm rfl (sm_alloc (l := [.d (.p (.int .i64 0)), .d (.p (.slice none 0 0))]) 2 inf24 rfl rfl rfl rfl) ?_
   refine AL.z ?_
   apply AL.nil
   try simp only [nd, setL, V.cs, nz, Nat.reduceAdd, nm, ns, enum]
   apply AW.sr
   refine AL.z ?_
   refine AL.call (post := ?pc2) rfl (sm_call (args := [_]) ?hc2 ⟨Tryd.func16, rfl, rfl, rfl, rfl⟩ rfl rfl rfl rfl) ?_
   case hc2 => exact hlike
   rintro _ rfl -
   try dsimp only
   iterate 3 refine AL.z ?_
   refine AL.sm rfl (sm_alloc (l := [.d (.p (.bool false)), .d (.p (.bool false)), .d (.p (.bool false)), .d (.p (.bool false)), .d (.p (.bool false))]) 4 inf35 rfl rfl rfl rfl) ?_
   refine AL.y ?_
   refine AL.z ?_
   apply AL.nil
   try simp only [nd, setL, V.cs, nz, Nat.reduceAdd, nm, ns]
   apply AW.seq
   apply AW.sr
   iterate 2 refine AL.z ?_
   apply AL.nil
   try simp only [nd]
   refine AW.condF rfl ?_
   apply AW.skip
   try simp only [thenS]
   apply AW.seq
   apply AW.sr
   iterate 3 refine AL.z ?_
   apply AL.nil
   try simp only [nd]
   refine AW.condF rfl ?_
   apply AW.skip
   try simp only [thenS]
   apply AW.seq
   apply AW.sr
   iterate 3 refine AL.z ?_
   apply AL.nil
   try simp only [nd]
   refine AW.condF rfl ?_
   apply AW.skip
   try simp only [thenS]
   apply AW.sr
   iterate 4 refine AL.z ?_
   apply AL.nil
   try simp only [nd]
   apply AW.sr
   refine AL.z ?_
   refine AL.sm rfl (sm_make_map 47 V.i (0) Tryd.underlying61 inf3 rfl rfl rfl rfl rfl zT13 zT12 rfl rfl) ?_
   refine AL.z ?_
   apply AL.nil
   try simp only [nd, setL, V.cs, nz, Nat.reduceAdd, nm, ns]
   apply AW.seq
   apply AW.sr
   refine AL.z ?_
   apply AL.nil
   try simp only [nd]
   apply AW.block
   refine AW.loop (fun s' => ∃ (k : Nat) (R : List Nat), k ≤ n ∧ R.length = n ∧ (∀ j, j < k → R[j]? = some big) ∧ s' = ⟨231, [(1, .ref 1 0), (2, .ref 2 0), (6, .i n), (7, .own 47 1 n false), (8, .i k)], [(1, ⟨24, [.i (s : Int), .d (stsD sts)], false, 0⟩), (2, ⟨24, [.i 0, .nil], false, 0⟩), (47, ⟨3, R.map V.n, false, 1⟩)], []⟩) (fun s' => n - s'.nat 8) ⟨_, ?_, 0, List.replicate n 0, by omega, by simp, (fun j h => absurd h zT13), rfl⟩ ?_
   ·have hz : (List.replicate n (0 : Int)).map V.i = (List.replicate n 0).map V.n := by simp
    rw [hz]
    exact Less.a0
   rintro s' ⟨k, R, hk, hRl, hR, rfl⟩
   by_cases hlt : k < n
   ·have hkR : k < R.length := by omega
    apply AW.seq
    apply AW.sr
    iterate 3 refine AL.z ?_
    apply AL.nil
    try simp only [nd]
    refine AW.condT rfl ?_
    apply AW.skip
    try simp only [thenS]
    apply AW.seq
    apply AW.block
    apply AW.region
    iterate 3 refine AL.z ?_
    refine AL.st rfl (st_store_map2 (v := big) inf3 rfl rfl rfl rfl rfl rfl rfl rfl zT9) ?_
    apply AL.nil
    try simp only [nd, setL, V.cs, nz, Nat.reduceAdd, nm, ns]
    apply AW.region
    iterate 3 refine AL.z ?_
    apply AL.nil
    try simp only [nd]
    refine ⟨_, ?_, ⟨k + 1, R.set k big, by omega, by simpa using hRl, fun j hj => ?_, rfl⟩, ?_⟩
    ·exact Less.a0
    ·rw [List.getElem?_set]
     by_cases e : k = j
     ·subst e; simp [hkR]
     rw [if_neg e]; exact hR j zT13
    simp [S.nat, fnd]; omega
   obtain rfl : k = n := by omega
   have hR0 : R = List.replicate k big := by
    refine List.ext_getElem? fun j => ?_
    by_cases hj : j < k
    ·rw [hR j hj, List.getElem?_replicate, if_pos hj]
    rw [List.getElem?_eq_none zT13, List.getElem?_eq_none (by simp; omega)]
   have hsR : s < R.length := by omega
   have hfst : R.set s 0 = ceOne k s := by rw [hR0]; rfl
   have hfl1 : (ceOne k s).length = k := by simp [ceOne]
   apply AW.seq
   apply AW.sr
   iterate 3 refine AL.z ?_
   apply AL.nil
   try simp only [nd]
   refine AW.condF rfl ?_
   refine AW.exit ?_
   try simp only [thenS, inBlockS, ↓reduceIte, Nat.reduceEqDiff]
   apply AW.sr
   iterate 4 refine AL.z ?_
   refine AL.st rfl (st_store_map2 (v := 0) inf3 rfl rfl rfl rfl rfl rfl rfl rfl zT9) ?_
   apply AL.nil
   try simp only [nd, setL, V.cs, nz, Nat.reduceAdd, nm, ns]
   apply AW.seq
   rw [hfst]
   refine AW.freeze 7 8 ((ceOne k s).map encN) rfl rfl rfl (by rw [List.length_map, hfl1]) zT13 (rows1 rfl) ?_
   apply AW.region
   refine AL.z ?_
   refine AL.sm rfl (sm_slice (vs := [(0, _)]) (zs := [.d (.p (.slice none 0 0))]) 61 Tryd.underlying62 inf61 rfl rfl zT12 zT12 zT12 rfl rfl rfl rfl rfl rfl rfl) ?_
   refine AL.z ?_
   apply AL.nil
   try simp only [nd, setL, V.cs, nz, Nat.reduceAdd, nm, ns]
   apply AW.sr
   refine AL.rp rfl rfl (rp_build (vs := [(0, _)]) (zs := [.d (.p (.int .i64 0)), .d (.p (.slice none 0 0))]) pl24 inf24 rfl rfl rfl rfl) ?_
   refine AL.sm rfl (sm_alloc (l := [.d (.p (.int .i64 0)), .d (.p (.slice none 0 0))]) 10 inf24 rfl rfl rfl rfl) ?_
   refine AL.y ?_
   apply AL.nil
   try simp only [nd, setL, V.cs, nz, Nat.reduceAdd, nm, ns]
   apply AW.sr
   refine AL.z ?_
   apply AL.nil
   try simp only [nd]
   apply AW.seq
   apply AW.seq
   refine AW.adoptH 10 1 902 2 33 rfl rfl rfl zT2 ?_
   apply AW.region
   refine AL.z ?_
   apply AL.nil
   try simp only [nd]
   apply AW.block
   clear hR hR0 hsR hfst hRl hlike hlt
   have hB0 : ∀ (j : Nat) (d : List Nat), [ceOne k s][j]? = some d → ceB k (j * 1000000000) d := fun j d hj => by
    cases j with
    | succ j => simp at hj
    | zero =>
     simp at hj
     subst hj
     refine ⟨hfl1, fun x hx => ?_⟩
     unfold ceOne at hx
     rcases List.mem_or_eq_of_mem_set hx with hx | rfl
     ·exact .inl (List.eq_of_mem_replicate hx)
     exact .inr zT13
   refine AW.loopN (fun μ s' => ∃ (L : List (List Nat)) (a : Nat) (P : List St), 61 - P.length ≤ μ ∧ cerR sts (61 - P.length) L a P = (e, P0) ∧ L.Nodup ∧ (∀ (j : Nat) (d : List Nat), L[j]? = some d → ceB k (j * 1000000000) d) ∧ P.length ≤ L.length ∧ L.length ≤ 60 ∧ a ≤ 400 ∧ s' = ⟨231, [(1, .ref 1 0), (2, .ref 2 0), (6, .i k), (9, .own 61 1 L.length false), (10, .ref 10 0), (12, .i P.length), (11, .i a)], [(1, ⟨24, [.i (s : Int), .d (stsD sts)], false, 0⟩), (2, ⟨24, [.i 0, .nil], false, 0⟩), (61, ⟨61, L.map fun d => V.d (sD d), false, 1⟩), (10, ⟨24, [.i 0, .own 902 2 P.length (decide (P.length = 0))], false, 0⟩), (902, ⟨33, P.flatMap stV2, decide (P.length = 0), 2⟩)], []⟩) ⟨61, _, ?_, [ceOne k s], 0, [], by simp, by simpa using hr0, by simp, hB0, by simp, by simp, by omega, rfl⟩ ?_
   ·exact Less.a0
   clear hB0 hr0 hfl1
   rintro μ s' ⟨L, a, P, hμ, hcer, hnd, hBd, hPl, hl60, ha4, rfl⟩
   obtain ⟨q, hPk⟩ : ∃ q, P.length = q := ⟨_, rfl⟩
   obtain ⟨lt, hlt⟩ : ∃ lt, L.length = lt := ⟨_, rfl⟩
   have hflP : (P.flatMap stV2).length = q * 2 := by rw [flat_len (sz := 2) (fun _ => rfl), hPk]
   rw [hPk, hlt] at hPl
   rw [hlt] at hl60
   rw [hPk] at hμ hcer
   simp only [hPk, hlt]
   by_cases hql : q < lt
   ·obtain ⟨d, hd⟩ := get_lt hlt hql
    obtain ⟨hdl, hdB⟩ := hBd q d hd
    have hdb : ∀ x ∈ d, x = big ∨ x ≤ 1000000000000 := fun x hx => by have := hdB x hx; omega
    rw [show 61 - q = (60 - q) + 1 by omega, cerR_at (by rw [hPk]; exact hd), hdl] at hcer
    have hf0 : (1152921504606846976 : Int) = ((finD sts d 0 : Nat) : Int) := rfl
    apply AW.seq
    apply AW.sr
    iterate 4 refine AL.z ?_
    apply AL.nil
    try simp only [nd]
    refine AW.condT rfl ?_
    apply AW.skip
    try simp only [thenS]
    apply AW.seq
    apply AW.block
    apply AW.sr
    iterate 5 refine AL.z ?_
    apply AL.nil
    try simp only [nd]
    apply AW.sr
    refine AL.z ?_
    apply AL.nil
    try simp only [nd]
    apply AW.seq
    apply AW.sr
    refine AL.z ?_
    apply AL.nil
    try simp only [nd]
    apply AW.block
    refine AW.loop (fun s' => ∃ (j : Nat) (v : Int), j ≤ k ∧ v = ((finD sts d j : Nat) : Int) ∧ s' = ⟨231, [(1, .ref 1 0), (2, .ref 2 0), (6, .i k), (9, .own 61 1 lt false), (10, .ref 10 0), (12, .i q), (11, .i a), (13, .d (sD d)), (14, .i v), (15, .i j)], [(1, ⟨24, [.i (s : Int), .d (stsD sts)], false, 0⟩), (2, ⟨24, [.i 0, .nil], false, 0⟩), (61, ⟨61, L.map fun d => V.d (sD d), false, 1⟩), (10, ⟨24, [.i 0, .own 902 2 q (decide (q = 0))], false, 0⟩), (902, ⟨33, P.flatMap stV2, decide (q = 0), 2⟩)], []⟩) (fun s' => k - s'.nat 15) ⟨_, ?_, 0, 1152921504606846976, by omega, hf0, rfl⟩ ?_
    ·exact Less.a0
    clear hf0
    rintro s' ⟨j, v, hj, hv, rfl⟩
    by_cases hjk : j < k
    ·obtain ⟨c, hc⟩ := get_lt hdl hjk
     obtain ⟨x, hx⟩ := get_lt hn hjk
     have hcb := hdb c (List.mem_of_getElem? hc)
     have hxf := (zok x (List.mem_of_getElem? hx)).1
     have hs := finD_at hc hx
     have hfb := finD_le sts d j
     obtain ⟨xf, xa⟩ := x
     simp only [finOk, decide_eq_true_eq] at hxf
     obtain ⟨f, rfl⟩ := Int.eq_ofNat_of_zero_le hxf.1
     simp only [Int.toNat_natCast] at hs
     by_cases c1 : c = big
     ·have hs2 : finD sts d (j + 1) = finD sts d j := by rw [hs, if_neg (fun h => h.1 c1)]
      have hcb2 : ¬ ((c : Int) ≠ 1152921504606846976) := by omega
      apply AW.seq
      apply AW.sr
      iterate 3 refine AL.z ?_
      apply AL.nil
      try simp only [nd]
      refine AW.condT rfl ?_
      apply AW.skip
      try simp only [thenS]
      apply AW.seq
      apply AW.block
      apply AW.seq
      refine AW.draw [(0, true), (1, true), (2, true), (3, true), (4, true), (5, true), (6, true), (7, true), (8, true), (9, true), (10, true), (11, true), (12, true), (13, true), (14, true), (15, true), (16, true), (17, true), (18, true), (19, true), (20, true), (21, true), (22, true), (23, true), (24, true), (25, true), (26, true), (27, true), (28, true)] (fun i => !([] : List Nat).contains i) 29 zT10 zT10 rfl zT10 ?_
      iterate 6 refine AD1.z ?_
      refine AD1.noV rfl rfl rfl rfl rfl (fun _ _ h => h) ?_
      refine AD1.noV rfl rfl rfl rfl rfl (fun _ _ h => h) ?_
      refine AD1.noV rfl rfl rfl rfl rfl (fun _ _ h => h) ?_
      refine AD1.noV rfl rfl rfl rfl rfl (fun _ _ h => h) ?_
      refine AD1.noV rfl rfl rfl rfl rfl (fun _ _ h => h) ?_
      refine AD1.noV rfl rfl rfl rfl rfl (fun _ _ h => h) ?_
      refine AD1.noV rfl rfl rfl rfl rfl (fun _ _ h => h) ?_
      iterate 2 refine AD1.z ?_
      refine AD1.noV rfl rfl rfl rfl rfl (fun _ _ h => h) ?_
      refine AD1.noV rfl rfl rfl rfl rfl (fun _ _ h => h) ?_
      refine AD1.noV rfl rfl rfl rfl rfl (fun _ _ h => h) ?_
      refine AD1.noV rfl rfl rfl rfl rfl (fun _ _ h => h) ?_
      refine AD1.noV rfl rfl rfl rfl rfl (fun _ _ h => h) ?_
      refine AD1.noV rfl rfl rfl rfl rfl (fun _ _ h => h) ?_
      refine AD1.noV rfl rfl rfl rfl rfl (fun _ _ h => h) ?_
      refine AD1.noV rfl rfl rfl rfl rfl (fun _ _ h => h) ?_
      refine AD1.noV rfl rfl rfl rfl rfl (fun _ _ h => h) ?_
      refine AD1.noV rfl rfl rfl rfl rfl (fun _ _ h => h) ?_
      refine AD1.noV rfl rfl rfl rfl rfl (fun _ _ h => h) ?_
      refine AD1.noV rfl rfl rfl rfl rfl (fun _ _ h => h) ?_
      refine AD1.noV rfl rfl rfl rfl rfl (fun _ _ h => h) ?_
      refine AD1.z ?_
      refine AD1.nil ?_
      try simp only [nd]
      refine AW.condF rfl ?_
      apply AW.skip
      try simp only [thenS]
      apply AW.region
      iterate 3 refine AL.z ?_
      apply AL.nil
      try simp only [nd]
      refine ⟨_, ?_, ⟨j + 1, v, by omega, by rw [hs2]; exact hv, rfl⟩, ?_⟩
      ·exact Less.a0
      simp [S.nat, fnd]; omega
     have hcb2 : (c : Int) ≠ 1152921504606846976 := by omega
     by_cases c2 : (f : Int) = 1000000001
     ·have hs2 : finD sts d (j + 1) = finD sts d j := by rw [hs, if_neg (fun h => h.2.1 c2)]
      apply AW.seq
      apply AW.sr
      iterate 3 refine AL.z ?_
      apply AL.nil
      try simp only [nd]
      refine AW.condT rfl ?_
      apply AW.skip
      try simp only [thenS]
      apply AW.seq
      apply AW.block
      apply AW.seq
      refine AW.draw [(0, true), (1, true), (2, true), (3, true), (4, true), (5, true), (6, true), (7, true), (8, true), (9, true), (10, true), (11, true), (12, true), (13, true), (14, true), (15, true), (16, true), (17, true), (18, true), (19, true), (20, true), (21, true), (22, true), (23, true), (24, true), (25, true), (26, true), (27, true), (28, true)] (fun i => !([] : List Nat).contains i) 29 zT10 zT10 rfl zT10 ?_
      iterate 6 refine AD1.z ?_
      iterate 7 refine AD1.zy ?_
      iterate 2 refine AD1.z ?_
      refine AD1.noV rfl rfl rfl rfl rfl (fun _ _ h => h) ?_
      refine AD1.noV rfl rfl rfl rfl rfl (fun _ _ h => h) ?_
      refine AD1.noV rfl rfl rfl rfl rfl (fun _ _ h => h) ?_
      refine AD1.noV rfl rfl rfl rfl rfl (fun _ _ h => h) ?_
      refine AD1.noV rfl rfl rfl rfl rfl (fun _ _ h => h) ?_
      refine AD1.noV rfl rfl rfl rfl rfl (fun _ _ h => h) ?_
      refine AD1.noV rfl rfl rfl rfl rfl (fun _ _ h => h) ?_
      refine AD1.noV rfl rfl rfl rfl rfl (fun _ _ h => h) ?_
      refine AD1.noV rfl rfl rfl rfl rfl (fun _ _ h => h) ?_
      refine AD1.noV rfl rfl rfl rfl rfl (fun _ _ h => h) ?_
      refine AD1.noV rfl rfl rfl rfl rfl (fun _ _ h => h) ?_
      refine AD1.noV rfl rfl rfl rfl rfl (fun _ _ h => h) ?_
      refine AD1.noV rfl rfl rfl rfl rfl (fun _ _ h => h) ?_
      refine AD1.z ?_
      refine AD1.nil ?_
      try simp only [nd]
      refine AW.condF rfl ?_
      apply AW.skip
      try simp only [thenS]
      apply AW.region
      iterate 3 refine AL.z ?_
      apply AL.nil
      try simp only [nd]
      refine ⟨_, ?_, ⟨j + 1, v, by omega, by rw [hs2]; exact hv, rfl⟩, ?_⟩
      ·exact Less.a0
      simp [S.nat, fnd]; omega
     by_cases c3 : (c : Int) + (f : Int) < v
     ·have hs2 : finD sts d (j + 1) = c + f := by rw [hs, if_pos ⟨c1, c2, by omega⟩]
      apply AW.seq
      apply AW.sr
      iterate 3 refine AL.z ?_
      apply AL.nil
      try simp only [nd]
      refine AW.condT rfl ?_
      apply AW.skip
      try simp only [thenS]
      apply AW.seq
      apply AW.block
      apply AW.seq
      refine AW.draw [(0, true), (1, true), (2, true), (3, true), (4, true), (5, true), (6, true), (7, true), (8, true), (9, true), (10, true), (11, true), (12, true), (13, true), (14, true), (15, true), (16, true), (17, true), (18, true), (19, true), (20, true), (21, true), (22, true), (23, true), (24, true), (25, true), (26, true), (27, true), (28, true)] (fun i => !([] : List Nat).contains i) 29 zT10 zT10 rfl zT10 ?_
      iterate 6 refine AD1.z ?_
      iterate 7 refine AD1.zy ?_
      iterate 2 refine AD1.z ?_
      iterate 13 refine AD1.zy ?_
      refine AD1.z ?_
      refine AD1.nil ?_
      try simp only [nd]
      refine AW.condT rfl ?_
      refine AW.draw [(0, true), (1, true), (2, true), (3, true), (4, true), (5, true), (6, true), (7, true), (8, true), (9, true), (10, true), (11, true)] (fun i => !([] : List Nat).contains i) 12 zT10 zT10 rfl zT10 ?_
      iterate 12 refine AD1.z ?_
      refine AD1.nil ?_
      try simp only [nd]
      apply AW.region
      iterate 3 refine AL.z ?_
      apply AL.nil
      try simp only [nd]
      refine ⟨_, ?_, ⟨j + 1, (c : Int) + (f : Int), by omega, by rw [hs2]; omega, rfl⟩, ?_⟩
      ·exact Less.a0
      simp [S.nat, fnd]; omega
     have hs2 : finD sts d (j + 1) = finD sts d j := by rw [hs, if_neg (fun h => c3 zT13)]
     apply AW.seq
     apply AW.sr
     iterate 3 refine AL.z ?_
     apply AL.nil
     try simp only [nd]
     refine AW.condT rfl ?_
     apply AW.skip
     try simp only [thenS]
     apply AW.seq
     apply AW.block
     apply AW.seq
     refine AW.draw [(0, true), (1, true), (2, true), (3, true), (4, true), (5, true), (6, true), (7, true), (8, true), (9, true), (10, true), (11, true), (12, true), (13, true), (14, true), (15, true), (16, true), (17, true), (18, true), (19, true), (20, true), (21, true), (22, true), (23, true), (24, true), (25, true), (26, true), (27, true), (28, true)] (fun i => !([] : List Nat).contains i) 29 zT10 zT10 rfl zT10 ?_
     iterate 6 refine AD1.z ?_
     iterate 7 refine AD1.zy ?_
     iterate 2 refine AD1.z ?_
     iterate 13 refine AD1.zy ?_
     refine AD1.z ?_
     refine AD1.nil ?_
     try simp only [nd]
     refine AW.condF rfl ?_
     apply AW.skip
     try simp only [thenS]
     apply AW.region
     iterate 3 refine AL.z ?_
     apply AL.nil
     try simp only [nd]
     refine ⟨_, ?_, ⟨j + 1, v, by omega, by rw [hs2]; exact hv, rfl⟩, ?_⟩
     ·exact Less.a0
     simp [S.nat, fnd]; omega
    obtain rfl : j = k := by omega
    obtain ⟨fv, hfv⟩ : ∃ fv, finD sts d j = fv := ⟨_, rfl⟩
    rw [hfv] at hcer hv
    subst hv
    clear hjk
    by_cases hov : fv ≠ big ∧ 1000000000 < fv
    ·rw [if_pos hov] at hcer
     obtain ⟨rfl, _⟩ := Prod.mk.inj hcer
     have htold := am_Told_over fv hov.1 hov.2
     apply AW.seq
     apply AW.sr
     iterate 3 refine AL.z ?_
     apply AL.nil
     try simp only [nd]
     refine AW.condF rfl ?_
     refine AW.exit ?_
     try simp only [thenS, inBlockS, ↓reduceIte, Nat.reduceEqDiff]
     apply AW.sr
     refine AL.z ?_
     refine AL.call (post := ?pc3) rfl (sm_call (args := [_]) ?hc3 ⟨Tryd.func17, rfl, rfl, rfl, rfl⟩ rfl rfl rfl rfl) ?_
     case hc3 => exact htold
     rintro _ rfl -
     try dsimp only
     iterate 5 refine AL.z ?_
     apply AL.nil
     try simp only [nd, setL, V.cs, nz, Nat.reduceAdd, nm, ns]
     apply AW.seq
     apply AW.sr
     iterate 2 refine AL.z ?_
     apply AL.nil
     try simp only [nd]
     refine AW.condT rfl ?_
     apply AW.sr
     refine AL.rp rfl rfl (rp_build (vs := []) (zs := [.d (.p (.int .i64 0)), .d (.p (.slice none 0 0))]) pl24 inf24 rfl rfl rfl rfl) ?_
     refine AL.z ?_
     refine AL.y ?_
     refine AL.z ?_
     apply AL.nil
     try simp only [nd, setL, V.cs, nz, Nat.reduceAdd, nm, ns]
     apply AW.ret
     exact ⟨[_, _], ⟨⟨2, 0, _, _, rfl, rfl, rfl, Tryd.underlying24, .inr ⟨rfl, _, _, _, _, inf24, rfl, rfl, rfl⟩⟩, rfl, trivial⟩, .inl ⟨by decide, rfl⟩, by simp [tupOf, V.pure, V.has, V.hasL]⟩
    rw [if_neg hov] at hcer
    have htold : Fn Tryd.prog 17 [.i ((fv : Nat) : Int)] (fun v => v = .tup [.i (ceTold fv), .i 0]) := by
     unfold ceTold
     by_cases hb : fv = big
     ·rw [if_pos hb]; exact am_Told_none fv hb
     rw [if_neg hb]; exact am_Told_ok fv hb zT13
    generalize ceTold fv = ft at htold hcer
    have hpr := hpairs d hdl
    have hp4 : (prS sts d).length ≤ 400 := Nat.le_trans (prS_len sts d) z400
    generalize prS sts d = PR at hpr hcer hp4
    obtain ⟨lp, hlp⟩ : ∃ lp, PR.length = lp := ⟨_, rfl⟩
    rw [hlp] at hp4
    clear hov hfv
    apply AW.seq
    apply AW.sr
    iterate 3 refine AL.z ?_
    apply AL.nil
    try simp only [nd]
    refine AW.condF rfl ?_
    refine AW.exit ?_
    try simp only [thenS, inBlockS, ↓reduceIte, Nat.reduceEqDiff]
    apply AW.sr
    refine AL.z ?_
    refine AL.call (post := ?pc4) rfl (sm_call (args := [_]) ?hc4 ⟨Tryd.func17, rfl, rfl, rfl, rfl⟩ rfl rfl rfl rfl) ?_
    case hc4 => exact htold
    rintro _ rfl -
    try dsimp only
    iterate 5 refine AL.z ?_
    apply AL.nil
    try simp only [nd, setL, V.cs, nz, Nat.reduceAdd, nm, ns]
    apply AW.seq
    apply AW.sr
    iterate 2 refine AL.z ?_
    apply AL.nil
    try simp only [nd]
    refine AW.condF rfl ?_
    apply AW.skip
    try simp only [thenS]
    apply AW.sr
    refine AL.z ?_
    refine AL.rp rfl rfl (rp_build (vs := [(0, _)]) (zs := [.d (.p (.int .i64 0)), .d (.p (.slice none 0 0))]) pl33 inf33 rfl rfl rfl rfl) ?_
    refine AL.sm rfl (sm_alloc (l := [.d (.p (.int .i64 0)), .d (.p (.slice none 0 0))]) 18 inf33 rfl zT1 rfl rfl) ?_
    refine AL.y ?_
    apply AL.nil
    try simp only [nd, setL, V.cs, nz, Nat.reduceAdd, nm, ns]
    apply AW.seq
    refine AW.adoptH 18 1 903 4 60 rfl rfl rfl zT2 ?_
    apply AW.region
    iterate 2 refine AL.z ?_
    refine AL.call (post := ?pc5) rfl (sm_call (args := [_, _]) ?hc5 ⟨Tryd.func18, rfl, rfl, rfl, rfl⟩ rfl rfl rfl rfl) ?_
    case hc5 => exact hpr
    rintro _ rfl -
    try dsimp only
    refine AL.z ?_
    apply AL.nil
    try simp only [nd, setL, V.cs, nz, Nat.reduceAdd, nm, ns]
    apply AW.seq
    apply AW.sr
    refine AL.z ?_
    apply AL.nil
    try simp only [nd]
    apply AW.block
    have hrun0 : cerA sts d (PR.drop 0) L a [] = cerA sts d PR L a [] := by rw [List.drop_zero]
    clear hpr htold hpairs
    refine AW.loop (fun s' => ∃ (i : Nat) (L' : List (List Nat)) (a' : Nat) (o : List Ar), i ≤ lp ∧ cerA sts d (PR.drop i) L' a' o = cerA sts d PR L a [] ∧ L'.Nodup ∧ (∀ (j' : Nat) (d : List Nat), L'[j']? = some d → ceB j (j' * 1000000000) d) ∧ q < L'.length ∧ L'.length ≤ 60 ∧ a' ≤ 400 ∧ o.length ≤ a' ∧ s' = ⟨231, [(1, .ref 1 0), (2, .ref 2 0), (6, .i j), (9, .own 61 1 L'.length false), (10, .ref 10 0), (12, .i q), (11, .i a'), (13, .d (sD d)), (18, .ref 18 0), (19, .d (arsD PR)), (20, .i i)], [(1, ⟨24, [.i (s : Int), .d (stsD sts)], false, 0⟩), (2, ⟨24, [.i 0, .nil], false, 0⟩), (61, ⟨61, L'.map fun d => V.d (sD d), false, 1⟩), (10, ⟨24, [.i 0, .own 902 2 q (decide (q = 0))], false, 0⟩), (902, ⟨33, P.flatMap stV2, decide (q = 0), 2⟩), (18, ⟨33, [.i ft, .own 903 4 o.length (decide (o.length = 0))], false, 0⟩), (903, ⟨60, o.flatMap arV2, decide (o.length = 0), 4⟩)], []⟩) (fun s' => lp - s'.nat 20) ⟨_, ?_, 0, L, a, [], by omega, hrun0, hnd, hBd, by omega, by omega, ha4, by simp, rfl⟩ ?_
    ·rw [hlt]; exact Less.a0
    clear hrun0 hnd hBd
    rintro s' ⟨i, L', a', o, hi, hrun, hnd, hBd, hql', hl60', ha4', hoa, rfl⟩
    obtain ⟨lt', hlt'⟩ : ∃ lt, L'.length = lt := ⟨_, rfl⟩
    obtain ⟨no, hno⟩ : ∃ no, o.length = no := ⟨_, rfl⟩
    have hflo : (o.flatMap arV2).length = no * 4 := by rw [flat_len (sz := 4) (fun _ => rfl), hno]
    have hflL : (L'.map fun d => V.d (sD d)).length = lt' * 1 := by rw [List.length_map, hlt', Nat.mul_one]
    rw [hlt'] at hql' hl60'
    rw [hno] at hoa
    simp only [hlt', hno]
    by_cases hil : i < lp
    ·obtain ⟨p, hp⟩ := get_lt hlp hil
     rw [cerA_at hp] at hrun
     have hbh := hbeh d p.i p.o hdl hdb
     have hXB : ceB j (q * 1000000000 + 1000000000) (nxL sts d p) := bhD_bound ⟨hdl, hdB⟩ hwok
     have hXe : bhD sts d p.i p.o = nxL sts d p := rfl
     rw [hXe] at hbh
     obtain ⟨X, hX⟩ : ∃ X, nxL sts d p = X := ⟨_, rfl⟩
     rw [hX] at hbh hXB hrun
     obtain ⟨pi, po, pw, pt⟩ := p
     simp only at hbh hrun
     obtain ⟨w, hw⟩ : ∃ w, mnL X = w := ⟨_, rfl⟩
     rw [hw] at hrun
     have hXl := hXB.1
     have hlo := am_leastOf X zT13
     rw [hw] at hlo
     clear hX hXe
     apply AW.seq
     apply AW.sr
     iterate 4 refine AL.z ?_
     apply AL.nil
     try simp only [nd]
     refine AW.condT rfl ?_
     apply AW.skip
     try simp only [thenS]
     apply AW.seq
     apply AW.block
     apply AW.seq
     refine AW.draw [(0, true), (1, true), (2, true), (3, true), (4, true), (5, true), (6, true), (7, true), (8, true), (9, true), (10, true), (11, true), (12, false), (13, false)] (fun i => !([] : List Nat).contains i) 14 zT10 zT10 rfl zT10 ?_
     iterate 12 refine AD1.z ?_
     refine AD1.go ?_
     refine AD2.callo (post := ?pc6) rfl rfl (sm_callo (args := [_, _, _, _]) ?hc6 ⟨Tryd.func19, rfl, rfl, rfl, rfl⟩ rfl rfl rfl rfl ?fc6) ?_
     case hc6 => exact hbh
     case fc6 => exact (by rintro _ _ ⟨rfl, rfl⟩; first | rfl | simp [S.clean, S.put, S.newObj, S.forget, V.has, V.hasL, junkIf, setL, V.cs, hasL_i, hasL_b, hasL_s, hasL_n, hasL_rep, hasL_flat, hasL_append])
     rintro _ _ ⟨rfl, rfl⟩
     try dsimp only
     refine AD2.rp1 rfl rfl rfl (rp_assign rfl rfl) ?_
     refine AD2.nil ?_
     try simp only [nd, setL, V.cs, nz, Nat.reduceAdd, nm, ns]
     apply AW.seq
     by_cases hw9 : 1000000000 < w
     ·rw [if_pos hw9] at hrun
      rw [← hrun] at hcer
      simp only at hcer
      rw [if_pos zT12] at hcer
      obtain ⟨rfl, _⟩ := Prod.mk.inj hcer
      clear hrun hbeh
      apply AW.region
      refine AL.z ?_
      refine AL.call (post := ?pc7) rfl (sm_callr (args := ?ac7) (us := [_]) ?hc7 ?qc7 ⟨Tryd.func20, rfl, rfl, rfl, rfl⟩ rfl rfl rfl ?rc7 rfl) ?_
      case hc7 => exact hlo
      case qc7 => (intro v hv; first | (subst hv; first | trivial | (simp [V.plain]; done)) | (obtain ⟨_, rfl, _⟩ := hv; first | trivial | (simp [V.plain]; done)))
      case rc7 => exact .cons (.own 901 1 j 8 false _ (X.map encN) rfl rfl (by rw [List.length_map, hXl]) zT13 (rows1 rfl)) .nil
      rintro _ rfl -
      try dsimp only
      refine AL.z ?_
      apply AL.nil
      try simp only [nd, setL, V.cs, nz, Nat.reduceAdd, nm, ns]
      apply AW.seq
      apply AW.sr
      iterate 2 refine AL.z ?_
      apply AL.nil
      try simp only [nd]
      refine AW.condT rfl ?_
      apply AW.sr
      refine AL.rp rfl rfl (rp_build (vs := []) (zs := [.d (.p (.int .i64 0)), .d (.p (.slice none 0 0))]) pl24 inf24 rfl rfl rfl rfl) ?_
      refine AL.y ?_
      refine AL.z ?_
      apply AL.nil
      try simp only [nd, setL, V.cs, nz, Nat.reduceAdd, nm, ns]
      apply AW.ret
      exact ⟨[_, _], ⟨⟨2, 0, _, _, rfl, rfl, rfl, Tryd.underlying24, .inr ⟨rfl, _, _, _, _, inf24, rfl, rfl, rfl⟩⟩, rfl, trivial⟩, .inl ⟨by decide, rfl⟩, by simp [tupOf, V.pure, V.has, V.hasL]⟩
     rw [if_neg hw9] at hrun
     have hle : ∀ x ∈ X, w ≤ x := fun x hx => by rw [← hw]; exact mnL_le hx
     apply AW.region
     refine AL.z ?_
     refine AL.call (post := ?pc8) rfl (sm_callr (args := ?ac8) (us := [_]) ?hc8 ?qc8 ⟨Tryd.func20, rfl, rfl, rfl, rfl⟩ rfl rfl rfl ?rc8 rfl) ?_
     case hc8 => exact hlo
     case qc8 => (intro v hv; first | (subst hv; first | trivial | (simp [V.plain]; done)) | (obtain ⟨_, rfl, _⟩ := hv; first | trivial | (simp [V.plain]; done)))
     case rc8 => exact .cons (.own 901 1 j 8 false _ (X.map encN) rfl rfl (by rw [List.length_map, hXl]) zT13 (rows1 rfl)) .nil
     rintro _ rfl -
     try dsimp only
     refine AL.z ?_
     apply AL.nil
     try simp only [nd, setL, V.cs, nz, Nat.reduceAdd, nm, ns]
     apply AW.seq
     apply AW.sr
     iterate 2 refine AL.z ?_
     apply AL.nil
     try simp only [nd]
     refine AW.condF rfl ?_
     apply AW.skip
     try simp only [thenS]
     apply AW.seq
     apply AW.sr
     refine AL.z ?_
     apply AL.nil
     try simp only [nd]
     apply AW.block
     refine AW.loop (fun s' => ∃ r : Nat, r ≤ j ∧ s' = ⟨231, [(1, .ref 1 0), (2, .ref 2 0), (6, .i j), (9, .own 61 1 lt' false), (10, .ref 10 0), (12, .i q), (11, .i a'), (13, .d (sD d)), (18, .ref 18 0), (19, .d (arsD PR)), (20, .i i), (21, .own 901 1 j false), (22, .i (w : Int)), (23, .i r)], [(1, ⟨24, [.i (s : Int), .d (stsD sts)], false, 0⟩), (2, ⟨24, [.i 0, .nil], false, 0⟩), (61, ⟨61, L'.map fun d => V.d (sD d), false, 1⟩), (10, ⟨24, [.i 0, .own 902 2 q (decide (q = 0))], false, 0⟩), (902, ⟨33, P.flatMap stV2, decide (q = 0), 2⟩), (18, ⟨33, [.i ft, .own 903 4 no (decide (no = 0))], false, 0⟩), (903, ⟨60, o.flatMap arV2, decide (no = 0), 4⟩), (901, ⟨3, ((X.take r).map (sbV w) ++ X.drop r).map V.n, false, 1⟩)], []⟩) (fun s' => j - s'.nat 23) ⟨_, ?_, 0, by omega, rfl⟩ ?_
     ·rw [List.take_zero, List.drop_zero, List.map_nil, List.nil_append]
      exact Less.a0
     clear hlo hbh hbeh
     rintro s' ⟨r, hr, rfl⟩
     by_cases hrj : r < j
     ·obtain ⟨x, hx⟩ := get_lt hXl hrj
      have hY := sb_at (w := w) hx
      have hst := sb_step (w := w) hx
      have hsm := sb_same (w := w) hx
      have hYl : r < ((X.take r).map (sbV w) ++ X.drop r).length := (List.getElem?_eq_some_iff.1 hY).1
      have hwx := hle x (List.mem_of_getElem? hx)
      have hxb := hXB.2 x (List.mem_of_getElem? hx)
      generalize (X.take r).map (sbV w) ++ X.drop r = Y at hY hst hsm hYl ⊢
      by_cases hxg : x = big
      ·have hs2 := hsm (by unfold sbV; rw [if_pos hxg]; exact hxg.symm)
       have hxg2 : ¬ ((x : Int) ≠ 1152921504606846976) := by omega
       clear hst hsm
       apply AW.seq
       apply AW.sr
       iterate 3 refine AL.z ?_
       apply AL.nil
       try simp only [nd]
       refine AW.condT rfl ?_
       apply AW.skip
       try simp only [thenS]
       apply AW.seq
       apply AW.block
       apply AW.sr
       iterate 5 refine AL.z ?_
       apply AL.nil
       try simp only [nd]
       refine AW.condF rfl ?_
       apply AW.skip
       try simp only [thenS]
       apply AW.region
       iterate 3 refine AL.z ?_
       apply AL.nil
       try simp only [nd]
       refine ⟨_, ?_, ⟨r + 1, by omega, rfl⟩, ?_⟩
       ·rw [hs2]; exact Less.a0
       simp [S.nat, fnd]; omega
      have hv : sbV w x = x - w := by unfold sbV; rw [if_neg hxg]
      rw [hv] at hst
      have hxg2 : (x : Int) ≠ 1152921504606846976 := by omega
      clear hsm
      apply AW.seq
      apply AW.sr
      iterate 3 refine AL.z ?_
      apply AL.nil
      try simp only [nd]
      refine AW.condT rfl ?_
      apply AW.skip
      try simp only [thenS]
      apply AW.seq
      apply AW.block
      apply AW.sr
      iterate 5 refine AL.z ?_
      apply AL.nil
      try simp only [nd]
      refine AW.condT rfl ?_
      apply AW.region
      iterate 7 refine AL.z ?_
      refine AL.rp rfl rfl (rp_subZ (((x - w : Nat) : Int)) rfl rfl rfl zT13 zT13) ?_
      refine AL.z ?_
      refine AL.st rfl (st_store_map2 (v := x - w) inf3 rfl rfl rfl rfl rfl rfl rfl rfl zT9) ?_
      apply AL.nil
      try simp only [nd, setL, V.cs, nz, Nat.reduceAdd, nm, ns]
      apply AW.region
      iterate 3 refine AL.z ?_
      apply AL.nil
      try simp only [nd]
      refine ⟨_, ?_, ⟨r + 1, by omega, rfl⟩, ?_⟩
      ·rw [← hst]; exact Less.a0
      simp [S.nat, fnd]; omega
     obtain rfl : r = j := by omega
     have hZ : (X.take r).map (sbV w) ++ X.drop r = sbL X w := by
      rw [List.take_of_length_le zT13, List.drop_eq_nil_of_le zT13, List.append_nil]; rfl
     rw [hZ]
     obtain ⟨hZl, hZB⟩ := sbL_bound (w := w) hXB
     generalize sbL X w = Z at hZ hZl hZB hrun ⊢
     apply AW.seq
     apply AW.sr
     iterate 3 refine AL.z ?_
     apply AL.nil
     try simp only [nd]
     refine AW.condF rfl ?_
     refine AW.exit ?_
     try simp only [thenS, inBlockS, ↓reduceIte, Nat.reduceEqDiff]
     apply AW.seq
     refine AW.freeze 21 8 (Z.map encN) rfl rfl rfl (by rw [List.length_map, hZl]) zT13 (rows1 rfl) ?_
     apply AW.region
     refine AL.z ?_
     apply AL.nil
     try simp only [nd]
     apply AW.seq
     apply AW.sr
     refine AL.z ?_
     apply AL.nil
     try simp only [nd]
     apply AW.block
     have hf0 := fndL.zero L' Z
     clear hZ hXB hXl hle hrj
     refine AW.loop (fun s' => ∃ (x : Nat) (v : Int), x ≤ lt' ∧ fndL L' Z x v ∧ s' = ⟨231, [(1, .ref 1 0), (2, .ref 2 0), (6, .i r), (9, .own 61 1 lt' false), (10, .ref 10 0), (12, .i q), (11, .i a'), (13, .d (sD d)), (18, .ref 18 0), (19, .d (arsD PR)), (20, .i i), (21, .d (sD Z)), (22, .i (w : Int)), (24, .i v), (25, .i x)], [(1, ⟨24, [.i (s : Int), .d (stsD sts)], false, 0⟩), (2, ⟨24, [.i 0, .nil], false, 0⟩), (61, ⟨61, L'.map fun d => V.d (sD d), false, 1⟩), (10, ⟨24, [.i 0, .own 902 2 q (decide (q = 0))], false, 0⟩), (902, ⟨33, P.flatMap stV2, decide (q = 0), 2⟩), (18, ⟨33, [.i ft, .own 903 4 no (decide (no = 0))], false, 0⟩), (903, ⟨60, o.flatMap arV2, decide (no = 0), 4⟩)], []⟩) (fun s' => lt' - s'.nat 25) ⟨_, ?_, 0, -1, by omega, hf0, rfl⟩ ?_
     ·exact Less.a0
     clear hf0
     rintro s' ⟨x, v, hx, hf, rfl⟩
     by_cases hxl : x < lt'
     ·obtain ⟨y, hy⟩ := get_lt hlt' hxl
      obtain ⟨hyl, _⟩ := hBd x y hy
      have hsc := am_sameCosts y Z r zT13 hyl hZl
      by_cases hyz : y = Z
      ·have hf2 := hf.yes (by rw [← hyz]; exact hy)
       rw [decide_eq_true hyz] at hsc
       clear hf
       apply AW.seq
       apply AW.sr
       iterate 4 refine AL.z ?_
       apply AL.nil
       try simp only [nd]
       refine AW.condT rfl ?_
       apply AW.skip
       try simp only [thenS]
       apply AW.seq
       apply AW.block
       apply AW.sr
       iterate 5 refine AL.z ?_
       refine AL.call (post := ?pc9) rfl (sm_call (args := [_, _]) ?hc9 ⟨Tryd.func21, rfl, rfl, rfl, rfl⟩ rfl rfl rfl rfl) ?_
       case hc9 => exact hsc
       rintro _ rfl -
       try dsimp only
       apply AL.nil
       try simp only [nd, setL, V.cs, nz, Nat.reduceAdd, nm, ns]
       refine AW.condT rfl ?_
       apply AW.region
       iterate 2 refine AL.z ?_
       apply AL.nil
       try simp only [nd]
       apply AW.region
       iterate 3 refine AL.z ?_
       apply AL.nil
       try simp only [nd]
       refine ⟨_, ?_, ⟨x + 1, (x : Int), by omega, hf2, rfl⟩, ?_⟩
       ·exact Less.a0
       simp [S.nat, fnd]; omega
      have hf2 := hf.no hy hyz
      rw [decide_eq_false hyz] at hsc
      clear hf
      apply AW.seq
      apply AW.sr
      iterate 4 refine AL.z ?_
      apply AL.nil
      try simp only [nd]
      refine AW.condT rfl ?_
      apply AW.skip
      try simp only [thenS]
      apply AW.seq
      apply AW.block
      apply AW.sr
      iterate 5 refine AL.z ?_
      refine AL.call (post := ?pc10) rfl (sm_call (args := [_, _]) ?hc10 ⟨Tryd.func21, rfl, rfl, rfl, rfl⟩ rfl rfl rfl rfl) ?_
      case hc10 => exact hsc
      rintro _ rfl -
      try dsimp only
      apply AL.nil
      try simp only [nd, setL, V.cs, nz, Nat.reduceAdd, nm, ns]
      refine AW.condF rfl ?_
      apply AW.skip
      try simp only [thenS]
      apply AW.region
      iterate 3 refine AL.z ?_
      apply AL.nil
      try simp only [nd]
      refine ⟨_, ?_, ⟨x + 1, v, by omega, hf2, rfl⟩, ?_⟩
      ·exact Less.a0
      simp [S.nat, fnd]; omega
     obtain rfl : x = lt' := by omega
     rw [← hlt'] at hf
     have hfe := hf.end hnd
     have hnd2 : (lAd L' Z).Nodup := lAd_nodup hnd
     clear hf
     rcases hfe with ⟨hv0, hix, had⟩ | ⟨y, rfl, hy1, hix, had⟩
     ·rw [had, hix, List.length_append, hlt'] at hrun
      simp only [List.length_cons, List.length_nil, Nat.zero_add] at hrun
      rw [had] at hnd2
      by_cases hfull : 400 < a' + 1 ∨ 60 < x + 1
      ·rw [if_pos hfull] at hrun
       rw [← hrun] at hcer
       simp only at hcer
       rw [if_pos zT12] at hcer
       obtain ⟨rfl, _⟩ := Prod.mk.inj hcer
       clear hrun
       rcases (show 400 < a' + 1 ∨ (¬ 400 < a' + 1 ∧ 60 < x + 1) by omega) with h | h
       ·skip
        apply AW.seq
        apply AW.sr
        iterate 4 refine AL.z ?_
        apply AL.nil
        try simp only [nd]
        refine AW.condF rfl ?_
        refine AW.exit ?_
        try simp only [thenS, inBlockS, ↓reduceIte, Nat.reduceEqDiff]
        apply AW.seq
        apply AW.sr
        iterate 2 refine AL.z ?_
        apply AL.nil
        try simp only [nd]
        refine AW.condT rfl ?_
        apply AW.sr
        iterate 3 refine AL.z ?_
        apply AL.nil
        try simp only [nd]
        apply AW.region
        iterate 2 refine AL.z ?_
        refine AL.sm rfl (sm_slice (vs := [(0, _)]) (zs := [.d (.p (.slice none 0 0))]) 194 Tryd.underlying62 inf61 rfl rfl zT12 zT12 zT12 rfl rfl rfl rfl zT1 rfl rfl) ?_
        refine AL.st rfl (st_appendF Tryd.underlying62 inf61 rfl zT12 rfl rfl rfl rfl rfl rfl zT5 zT1 rfl rfl rfl rfl rfl rfl rfl zT12 zT13 zT13 rfl) ?_
        simp only [S.forget, S.put, S.newObj, junkIf, V.has, V.hasL, nh, hasL_flat, hasL_append, List.map_cons, List.map_nil, List.filter_cons, List.filter_nil, Nat.reduceBNe, Nat.reduceBEq, eq_self, bne_self_eq_false,  Bool.not_true, Bool.not_false, Bool.or_false, Bool.or_true, Bool.false_or, Bool.true_or, if_true, if_false, Bool.false_eq_true, ite_true, ite_false, ↓reduceIte, beq_self_eq_true, Nat.reduceEqDiff]
        refine AL.z ?_
        apply AL.nil
        try simp only [nd, setL, V.cs, nz, Nat.reduceAdd, nm, ns]
        apply AW.sr
        iterate 3 refine AL.z ?_
        apply AL.nil
        try simp only [nd]
        apply AW.seq
        apply AW.sr
        iterate 3 refine AL.z ?_
        refine AL.noV rfl rfl rfl rfl ?_
        refine AL.noV rfl rfl rfl rfl ?_
        refine AL.noV rfl rfl rfl rfl ?_
        refine AL.z ?_
        apply AL.nil
        try simp only [nd]
        refine AW.condT rfl ?_
        apply AW.sr
        refine AL.rp rfl rfl (rp_build (vs := []) (zs := [.d (.p (.int .i64 0)), .d (.p (.slice none 0 0))]) pl24 inf24 rfl rfl rfl rfl) ?_
        refine AL.y ?_
        refine AL.z ?_
        apply AL.nil
        try simp only [nd, setL, V.cs, nz, Nat.reduceAdd, nm, ns]
        apply AW.ret
        exact ⟨[_, _], ⟨⟨2, 0, _, _, rfl, rfl, rfl, Tryd.underlying24, .inr ⟨rfl, _, _, _, _, inf24, rfl, rfl, rfl⟩⟩, rfl, trivial⟩, .inl ⟨by decide, rfl⟩, by simp [tupOf, V.pure, V.has, V.hasL]⟩
       skip
       apply AW.seq
       apply AW.sr
       iterate 4 refine AL.z ?_
       apply AL.nil
       try simp only [nd]
       refine AW.condF rfl ?_
       refine AW.exit ?_
       try simp only [thenS, inBlockS, ↓reduceIte, Nat.reduceEqDiff]
       apply AW.seq
       apply AW.sr
       iterate 2 refine AL.z ?_
       apply AL.nil
       try simp only [nd]
       refine AW.condT rfl ?_
       apply AW.sr
       iterate 3 refine AL.z ?_
       apply AL.nil
       try simp only [nd]
       apply AW.region
       iterate 2 refine AL.z ?_
       refine AL.sm rfl (sm_slice (vs := [(0, _)]) (zs := [.d (.p (.slice none 0 0))]) 194 Tryd.underlying62 inf61 rfl rfl zT12 zT12 zT12 rfl rfl rfl rfl zT1 rfl rfl) ?_
       refine AL.st rfl (st_appendF Tryd.underlying62 inf61 rfl zT12 rfl rfl rfl rfl rfl rfl zT5 zT1 rfl rfl rfl rfl rfl rfl rfl zT12 zT13 zT13 rfl) ?_
       simp only [S.forget, S.put, S.newObj, junkIf, V.has, V.hasL, nh, hasL_flat, hasL_append, List.map_cons, List.map_nil, List.filter_cons, List.filter_nil, Nat.reduceBNe, Nat.reduceBEq, eq_self, bne_self_eq_false,  Bool.not_true, Bool.not_false, Bool.or_false, Bool.or_true, Bool.false_or, Bool.true_or, if_true, if_false, Bool.false_eq_true, ite_true, ite_false, ↓reduceIte, beq_self_eq_true, Nat.reduceEqDiff]
       refine AL.z ?_
       apply AL.nil
       try simp only [nd, setL, V.cs, nz, Nat.reduceAdd, nm, ns]
       apply AW.sr
       iterate 3 refine AL.z ?_
       apply AL.nil
       try simp only [nd]
       apply AW.seq
       apply AW.sr
       iterate 3 refine AL.z ?_
       iterate 3 refine AL.zy ?_
       refine AL.z ?_
       apply AL.nil
       try simp only [nd]
       refine AW.condT rfl ?_
       apply AW.sr
       refine AL.rp rfl rfl (rp_build (vs := []) (zs := [.d (.p (.int .i64 0)), .d (.p (.slice none 0 0))]) pl24 inf24 rfl rfl rfl rfl) ?_
       refine AL.y ?_
       refine AL.z ?_
       apply AL.nil
       try simp only [nd, setL, V.cs, nz, Nat.reduceAdd, nm, ns]
       apply AW.ret
       exact ⟨[_, _], ⟨⟨2, 0, _, _, rfl, rfl, rfl, Tryd.underlying24, .inr ⟨rfl, _, _, _, _, inf24, rfl, rfl, rfl⟩⟩, rfl, trivial⟩, .inl ⟨by decide, rfl⟩, by simp [tupOf, V.pure, V.has, V.hasL]⟩
      rw [if_neg hfull] at hrun
      apply AW.seq
      apply AW.sr
      iterate 4 refine AL.z ?_
      apply AL.nil
      try simp only [nd]
      refine AW.condF rfl ?_
      refine AW.exit ?_
      try simp only [thenS, inBlockS, ↓reduceIte, Nat.reduceEqDiff]
      apply AW.seq
      apply AW.sr
      iterate 2 refine AL.z ?_
      apply AL.nil
      try simp only [nd]
      refine AW.condT rfl ?_
      apply AW.sr
      iterate 3 refine AL.z ?_
      apply AL.nil
      try simp only [nd]
      apply AW.region
      iterate 2 refine AL.z ?_
      refine AL.sm rfl (sm_slice (vs := [(0, _)]) (zs := [.d (.p (.slice none 0 0))]) 194 Tryd.underlying62 inf61 rfl rfl zT12 zT12 zT12 rfl rfl rfl rfl zT1 rfl rfl) ?_
      refine AL.st rfl (st_appendF Tryd.underlying62 inf61 rfl zT12 rfl rfl rfl rfl rfl rfl zT5 zT1 rfl rfl rfl rfl rfl rfl rfl zT12 zT13 zT13 rfl) ?_
      simp only [S.forget, S.put, S.newObj, junkIf, V.has, V.hasL, nh, hasL_flat, hasL_append, List.map_cons, List.map_nil, List.filter_cons, List.filter_nil, Nat.reduceBNe, Nat.reduceBEq, eq_self, bne_self_eq_false,  Bool.not_true, Bool.not_false, Bool.or_false, Bool.or_true, Bool.false_or, Bool.true_or, if_true, if_false, Bool.false_eq_true, ite_true, ite_false, ↓reduceIte, beq_self_eq_true, Nat.reduceEqDiff]
      refine AL.z ?_
      apply AL.nil
      try simp only [nd, setL, V.cs, nz, Nat.reduceAdd, nm, ns]
      apply AW.sr
      iterate 3 refine AL.z ?_
      apply AL.nil
      try simp only [nd]
      apply AW.seq
      apply AW.sr
      iterate 3 refine AL.z ?_
      iterate 3 refine AL.zy ?_
      refine AL.z ?_
      apply AL.nil
      try simp only [nd]
      refine AW.condF rfl ?_
      apply AW.skip
      try simp only [thenS]
      refine AW.draw [(0, true), (1, true), (2, true), (3, true), (4, true), (5, true), (6, true), (7, true), (8, true), (9, true), (10, true), (11, true), (12, true), (13, true), (14, true), (15, false), (16, false), (17, false), (18, false)] (fun i => !([16, 17, 18] : List Nat).contains i) 19 zT10 zT10 rfl zT10 ?_
      iterate 14 refine AD1.z ?_
      refine AD1.rp rfl rfl rfl (fun _ _ h => h) (rp_build (vs := [(0, _), (1, _), (2, _), (3, _)]) (zs := [.d (.p (.int .i64 0)), .d (.p (.int .i64 0)), .d (.p (.int .i64 0)), .d (.p (.int .i64 0))]) pl60 inf60 rfl rfl rfl rfl) ?_
      refine AD1.go ?_
      refine AD2.sm rfl rfl (sm_slice (vs := [(0, _)]) (zs := [.d (.p (.int .i64 0)), .d (.p (.int .i64 0)), .d (.p (.int .i64 0)), .d (.p (.int .i64 0))]) 221 Tryd.underlying31 inf60 rfl rfl zT12 zT12 zT12 rfl rfl rfl rfl zT1 rfl rfl) ?_
      refine AD2.go ?_
      refine AD3.st rfl rfl rfl (st_appendF Tryd.underlying31 inf60 rfl zT12 rfl rfl rfl rfl rfl rfl zT5 zT1 rfl rfl rfl rfl rfl rfl rfl zT12 zT13 zT13 rfl) ?_
      simp only [S.forget, S.put, S.newObj, junkIf, V.has, V.hasL, nh, hasL_flat, hasL_append, List.map_cons, List.map_nil, List.filter_cons, List.filter_nil, Nat.reduceBNe, Nat.reduceBEq, eq_self, bne_self_eq_false,  Bool.not_true, Bool.not_false, Bool.or_false, Bool.or_true, Bool.false_or, Bool.true_or, if_true, if_false, Bool.false_eq_true, ite_true, ite_false, ↓reduceIte, beq_self_eq_true, Nat.reduceEqDiff]
      refine AD3.rp1 rfl rfl rfl rfl (rp_field_ref Tryd.underlying33 rfl rfl rfl inf31 zT12 rfl) ?_
      (refine AD3.st rfl rfl rfl (st_store inf31 rfl rfl rfl rfl rfl rfl rfl zT7 rfl) ?_)
      refine AD3.nil ?_
      try simp only [nd, setL, V.cs, nz, Nat.reduceAdd, nm, ns]
      apply AW.region
      iterate 3 refine AL.z ?_
      apply AL.nil
      try simp only [nd]
      refine ⟨_, ?_, ⟨i + 1, L' ++ [Z], a' + 1, o ++ [⟨pi, po, (w : Int), (x : Int)⟩], by omega, hrun, hnd2, fun j' d' hj' => ?_, by rw [List.length_append, hlt']; omega, by rw [List.length_append, hlt']; simp only [List.length_cons, List.length_nil]; omega, by omega, by rw [List.length_append, hno]; simp only [List.length_cons, List.length_nil]; omega, rfl⟩, ?_⟩
      ·simp only [List.flatMap_append, List.flatMap_cons, List.flatMap_nil, List.append_nil, List.length_append, List.length_cons, List.length_nil, Nat.zero_add, List.map_append, List.map_cons, List.map_nil, hlt', hno]
       exact Less.a0
      ·by_cases hjl : j' < L'.length
       ·rw [List.getElem?_append_left hjl] at hj'
        exact hBd j' d' hj'
       rw [List.getElem?_append_right zT13] at hj'
       cases hjj : j' - L'.length with
       | succ z => rw [hjj] at hj'; simp at hj'
       | zero =>
        rw [hjj] at hj'
        simp at hj'
        subst hj'
        refine ⟨hZl, fun u hu => ?_⟩
        exact up9 (hZB u hu) zT13
      simp [S.nat, fnd]; omega
     rw [had, hix, hlt'] at hrun
     clear hnd2
     by_cases hfull : 400 < a' + 1
     ·rw [if_pos (.inl hfull)] at hrun
      rw [← hrun] at hcer
      simp only at hcer
      rw [if_pos zT12] at hcer
      obtain ⟨rfl, _⟩ := Prod.mk.inj hcer
      clear hrun
      apply AW.seq
      apply AW.sr
      iterate 4 refine AL.z ?_
      apply AL.nil
      try simp only [nd]
      refine AW.condF rfl ?_
      refine AW.exit ?_
      try simp only [thenS, inBlockS, ↓reduceIte, Nat.reduceEqDiff]
      apply AW.seq
      apply AW.sr
      iterate 2 refine AL.z ?_
      apply AL.nil
      try simp only [nd]
      refine AW.condF rfl ?_
      apply AW.skip
      try simp only [thenS]
      apply AW.sr
      iterate 3 refine AL.z ?_
      apply AL.nil
      try simp only [nd]
      apply AW.seq
      apply AW.sr
      iterate 3 refine AL.z ?_
      refine AL.noV rfl rfl rfl rfl ?_
      refine AL.noV rfl rfl rfl rfl ?_
      refine AL.noV rfl rfl rfl rfl ?_
      refine AL.z ?_
      apply AL.nil
      try simp only [nd]
      refine AW.condT rfl ?_
      apply AW.sr
      refine AL.rp rfl rfl (rp_build (vs := []) (zs := [.d (.p (.int .i64 0)), .d (.p (.slice none 0 0))]) pl24 inf24 rfl rfl rfl rfl) ?_
      refine AL.y ?_
      refine AL.z ?_
      apply AL.nil
      try simp only [nd, setL, V.cs, nz, Nat.reduceAdd, nm, ns]
      apply AW.ret
      exact ⟨[_, _], ⟨⟨2, 0, _, _, rfl, rfl, rfl, Tryd.underlying24, .inr ⟨rfl, _, _, _, _, inf24, rfl, rfl, rfl⟩⟩, rfl, trivial⟩, .inl ⟨by decide, rfl⟩, by simp [tupOf, V.pure, V.has, V.hasL]⟩
     rw [if_neg zT13] at hrun
     apply AW.seq
     apply AW.sr
     iterate 4 refine AL.z ?_
     apply AL.nil
     try simp only [nd]
     refine AW.condF rfl ?_
     refine AW.exit ?_
     try simp only [thenS, inBlockS, ↓reduceIte, Nat.reduceEqDiff]
     apply AW.seq
     apply AW.sr
     iterate 2 refine AL.z ?_
     apply AL.nil
     try simp only [nd]
     refine AW.condF rfl ?_
     apply AW.skip
     try simp only [thenS]
     apply AW.sr
     iterate 3 refine AL.z ?_
     apply AL.nil
     try simp only [nd]
     apply AW.seq
     apply AW.sr
     iterate 3 refine AL.z ?_
     iterate 3 refine AL.zy ?_
     refine AL.z ?_
     apply AL.nil
     try simp only [nd]
     refine AW.condF rfl ?_
     apply AW.skip
     try simp only [thenS]
     refine AW.draw [(0, true), (1, true), (2, true), (3, true), (4, true), (5, true), (6, true), (7, true), (8, true), (9, true), (10, true), (11, true), (12, true), (13, true), (14, true), (15, false), (16, false), (17, false), (18, false)] (fun i => !([16, 17, 18] : List Nat).contains i) 19 zT10 zT10 rfl zT10 ?_
     iterate 14 refine AD1.z ?_
     refine AD1.rp rfl rfl rfl (fun _ _ h => h) (rp_build (vs := [(0, _), (1, _), (2, _), (3, _)]) (zs := [.d (.p (.int .i64 0)), .d (.p (.int .i64 0)), .d (.p (.int .i64 0)), .d (.p (.int .i64 0))]) pl60 inf60 rfl rfl rfl rfl) ?_
     refine AD1.go ?_
     refine AD2.sm rfl rfl (sm_slice (vs := [(0, _)]) (zs := [.d (.p (.int .i64 0)), .d (.p (.int .i64 0)), .d (.p (.int .i64 0)), .d (.p (.int .i64 0))]) 221 Tryd.underlying31 inf60 rfl rfl zT12 zT12 zT12 rfl rfl rfl rfl zT1 rfl rfl) ?_
     refine AD2.go ?_
     refine AD3.st rfl rfl rfl (st_appendF Tryd.underlying31 inf60 rfl zT12 rfl rfl rfl rfl rfl rfl zT5 zT1 rfl rfl rfl rfl rfl rfl rfl zT12 zT13 zT13 rfl) ?_
     simp only [S.forget, S.put, S.newObj, junkIf, V.has, V.hasL, nh, hasL_flat, hasL_append, List.map_cons, List.map_nil, List.filter_cons, List.filter_nil, Nat.reduceBNe, Nat.reduceBEq, eq_self, bne_self_eq_false,  Bool.not_true, Bool.not_false, Bool.or_false, Bool.or_true, Bool.false_or, Bool.true_or, if_true, if_false, Bool.false_eq_true, ite_true, ite_false, ↓reduceIte, beq_self_eq_true, Nat.reduceEqDiff]
     refine AD3.rp1 rfl rfl rfl rfl (rp_field_ref Tryd.underlying33 rfl rfl rfl inf31 zT12 rfl) ?_
     (refine AD3.st rfl rfl rfl (st_store inf31 rfl rfl rfl rfl rfl rfl rfl zT7 rfl) ?_)
     refine AD3.nil ?_
     try simp only [nd, setL, V.cs, nz, Nat.reduceAdd, nm, ns]
     apply AW.region
     iterate 3 refine AL.z ?_
     apply AL.nil
     try simp only [nd]
     refine ⟨_, ?_, ⟨i + 1, L', a' + 1, o ++ [⟨pi, po, (w : Int), (y : Int)⟩], by omega, hrun, hnd, hBd, by omega, by omega, by omega, by rw [List.length_append, hno]; simp only [List.length_cons, List.length_nil]; omega, rfl⟩, ?_⟩
     ·simp only [List.flatMap_append, List.flatMap_cons, List.flatMap_nil, List.append_nil, List.length_append, List.length_cons, List.length_nil, Nat.zero_add, hlt', hno]
      exact Less.a0
     simp [S.nat, fnd]; omega
    obtain rfl : i = lp := by omega
    rw [List.drop_eq_nil_of_le zT13, cerA] at hrun
    rw [← hrun] at hcer
    simp only at hcer
    rw [if_neg zT14] at hcer
    apply AW.seq
    apply AW.sr
    iterate 4 refine AL.z ?_
    apply AL.nil
    try simp only [nd]
    refine AW.condF rfl ?_
    refine AW.exit ?_
    try simp only [thenS, inBlockS, ↓reduceIte, Nat.reduceEqDiff]
    refine AW.freezeH 18 1 32 (o.map arD) rfl rfl rfl zT12 rfl rfl (by rw [List.length_map, hno]) zT13 (rowsF (enc := arD) (sz := 4) (l := o) (fun _ => rfl) rfl) ?_
    apply AW.region
    iterate 3 refine AL.z ?_
    refine AL.sm rfl (sm_slice (vs := [(0, _)]) (zs := [.d (.p (.int .i64 0)), .d (.p (.slice none 0 0))]) 227 Tryd.underlying22 inf33 rfl rfl zT12 zT12 zT12 rfl rfl rfl rfl zT1 rfl rfl) ?_
    refine AL.st rfl (st_appendF Tryd.underlying22 inf33 rfl zT12 rfl rfl rfl rfl rfl rfl zT5 zT1 rfl rfl rfl rfl rfl rfl rfl zT12 zT13 zT13 rfl) ?_
    simp only [S.forget, S.put, S.newObj, junkIf, V.has, V.hasL, nh, hasL_flat, hasL_append, List.map_cons, List.map_nil, List.filter_cons, List.filter_nil, Nat.reduceBNe, Nat.reduceBEq, eq_self, bne_self_eq_false,  Bool.not_true, Bool.not_false, Bool.or_false, Bool.or_true, Bool.false_or, Bool.true_or, if_true, if_false, Bool.false_eq_true, ite_true, ite_false, ↓reduceIte, beq_self_eq_true, Nat.reduceEqDiff]
    refine AL.z ?_
    (refine AL.st rfl (st_store inf22 rfl rfl rfl rfl rfl rfl rfl zT7 rfl) ?_)
    apply AL.nil
    try simp only [nd, setL, V.cs, nz, Nat.reduceAdd, nm, ns]
    apply AW.region
    iterate 3 refine AL.z ?_
    apply AL.nil
    try simp only [nd]
    refine ⟨μ - 1, _, ?_, ⟨L', a', P ++ [⟨ft, o⟩], by rw [List.length_append, hPk]; simp only [List.length_cons, List.length_nil]; omega, ?_, hnd, hBd, by rw [List.length_append, hPk, hlt']; simp only [List.length_cons, List.length_nil]; omega, by omega, ha4', rfl⟩, ?_⟩
    ·simp only [List.flatMap_append, List.flatMap_cons, List.flatMap_nil, List.append_nil, List.length_append, List.length_cons, List.length_nil, Nat.zero_add, hPk, hlt']
     exact Less.a0
    ·rw [List.length_append, List.length_cons, List.length_nil, hPk, show 61 - (q + (0 + 1)) = 60 - q by omega]
     exact hcer
    omega
   rw [cerR_end zT13] at hcer
   obtain ⟨rfl, rfl⟩ := Prod.mk.inj hcer
   rw [hM rfl]
   apply AW.seq
   apply AW.sr
   iterate 4 refine AL.z ?_
   apply AL.nil
   try simp only [nd]
   refine AW.condF rfl ?_
   refine AW.exit ?_
   try simp only [thenS, inBlockS, ↓reduceIte, Nat.reduceEqDiff]
   apply AW.seq
   refine AW.freezeH 10 1 32 (P.map stD) rfl rfl rfl zT12 rfl rfl (by rw [List.length_map, hPk]) zT13 (rowsF (enc := stD) (sz := 2) (l := P) (fun _ => rfl) rfl) ?_
   apply AW.region
   refine AL.z ?_
   refine AL.y ?_
   refine AL.z ?_
   apply AL.nil
   try simp only [nd, setL, V.cs, nz, Nat.reduceAdd, nm, ns]
   apply AW.ret
   exact ⟨[_, _], ⟨⟨2, 0, _, _, rfl, rfl, rfl, Tryd.underlying24, .inr ⟨rfl, _, _, _, _, inf24, rfl, rfl, rfl⟩⟩, rfl, trivial⟩, .inr ⟨rfl, .inl rfl⟩, by simp [tupOf, V.pure, V.has, V.hasL]⟩
 have hE : ceE m = machE m := by unfold ceE; rw [if_pos h0]
 rw [prV_no h0] at hlike
 rw [hE]
 obtain ⟨e, he⟩ : ∃ e, machE m = e := ⟨_, rfl⟩
 rw [he] at hlike h0 ⊢
 obtain ⟨st, sts⟩ := m
 refine Fn.intro (n := 231) ⟨Tryd.func6, rfl, rfl, rfl, rfl⟩ zT8 zT14 fun w0 out => ?_
 apply AW.sr
 refine AL.sm rfl (sm_box 1 rfl rfl rfl rfl rfl) ?_
 refine AL.sm rfl (sm_alloc (l := [.d (.p (.int .i64 0)), .d (.p (.slice none 0 0))]) 2 inf24 rfl rfl rfl rfl) ?_
 refine AL.z ?_
 apply AL.nil
 try simp only [nd, setL, V.cs, nz, Nat.reduceAdd, nm, ns, enum]
 apply AW.sr
 refine AL.z ?_
 refine AL.call (post := ?pc11) rfl (sm_call (args := [_]) ?hc11 ⟨Tryd.func16, rfl, rfl, rfl, rfl⟩ rfl rfl rfl rfl) ?_
 case hc11 => exact hlike
 rintro _ rfl -
 try dsimp only
 iterate 3 refine AL.z ?_
 refine AL.sm rfl (sm_alloc (l := [.d (.p (.bool false)), .d (.p (.bool false)), .d (.p (.bool false)), .d (.p (.bool false)), .d (.p (.bool false))]) 4 inf35 rfl rfl rfl rfl) ?_
 refine AL.y ?_
 refine AL.z ?_
 apply AL.nil
 try simp only [nd, setL, V.cs, nz, Nat.reduceAdd, nm, ns]
 apply AW.seq
 apply AW.sr
 iterate 2 refine AL.z ?_
 apply AL.nil
 try simp only [nd]
 refine AW.condT rfl ?_
 apply AW.sr
 refine AL.rp rfl rfl (rp_build (vs := []) (zs := [.d (.p (.int .i64 0)), .d (.p (.slice none 0 0))]) pl24 inf24 rfl rfl rfl rfl) ?_
 refine AL.z ?_
 refine AL.y ?_
 refine AL.z ?_
 apply AL.nil
 try simp only [nd, setL, V.cs, nz, Nat.reduceAdd, nm, ns]
 apply AW.ret
 exact ⟨[_, _], ⟨⟨2, 0, _, _, rfl, rfl, rfl, Tryd.underlying24, .inr ⟨rfl, _, _, _, _, inf24, rfl, rfl, rfl⟩⟩, rfl, trivial⟩, .inl ⟨h0, rfl⟩, by simp [tupOf, V.pure, V.has, V.hasL]⟩
theorem ba_beq (a b : ByteArray) : (a == b) = decide (a = b) := by
  cases a with | mk x =>
  cases b with | mk y =>
  show (x == y) = _
  by_cases h : x = y
  · subst h; simp
  have h2 : ¬ (⟨x⟩ : ByteArray) = ⟨y⟩ := fun e => h (congrArg ByteArray.data e)
  simp [h, h2]
section
variable {c : Cx} {s : S} {o : Oper} {g : Nat → Nat × Nat} {a : Act} {w : World} {Q : Exit → S → Prop}
section
variable {K : Type} [DecidableEq K] {enc : K → Value}
end
end
section
variable (y : Bool) (r r' : Nat) (l : List (Value × Value))
end
section
variable {c : Cx} {s : S} {o : Oper}
end
def vrows (l : List (ByteArray × Int)) : List (Value × Value) := l.map fun x => (.string x.1, .agg #[.int .i64 x.2])
theorem findNow_strV (a : ByteArray) : ∀ (l : List (ByteArray × Int)) (i j : Nat), Instr.findNow .string (.string a) (((vrows l).zipIdx j).map fun x => ({ key := x.1.1, val := x.1.2, born := x.2 } : MapEntry)) i = some ((mfind l a i).map fun x => (x.1, .agg #[.int .i64 x.2]))
  | [], i, j => rfl
  | (k, v) :: l, i, j => by
    simp only [vrows, List.map_cons, List.zipIdx_cons, Instr.findNow, Instr.sameNow, mfind]
    by_cases e : a = k
    · subst e; simp [ba_beq]
    have : (a == k) = false := by rw [ba_beq]; simpa using e
    simp only [this, if_neg e]
    exact findNow_strV a l (i + 1) (j + 1)
theorem strV_check {P : Program} {k : TypeId} (hu : P.underlying k = some .string) (b : Bool) (a : ByteArray) (w : World) : (Instr.checkKey b 10000 k (.string a)).run P w = .ok () w := by
  have : ∀ n : Nat, (Instr.checkKey b (n + 1) k (.string a)).run P w = .ok () w := fun n => by simp [Instr.checkKey, run_underlying hu]
  exact this 9999
theorem strV_find {P : Program} {k : TypeId} (hu : P.underlying k = some .string) (l : List (ByteArray × Int)) (a : ByteArray) (w : World) : (Instr.findKey k (.string a) (ments (vrows l)).toList).run P w = .ok ((mfind l a 0).map fun x => (x.1, .agg #[.int .i64 x.2])) w := by
  have := findNow_strV a l 0 0
  simp only [Instr.findKey, Sem.run_bind, run_underlying hu, Result.andThen_ok, ments, List.toList_toArray, this]
  rfl
section
variable {c : Cx} {s : S} {o : Oper}
theorem run_lookupS {P : Program} {t k e : TypeId} {bt b : Nat} {l : List (ByteArray × Int)} {key : ByteArray} {ok : Bool} {w : World} (hk : P.underlying k = some .string) (hu : P.underlying t = some (.map k e)) (hi : Inf P e 1 bt (.agg #[.int .i64 0])) (hb : w.heap[b]? = some (.map (ments (vrows l)) (vrows l).length)) :
    (Instr.lookup t (.map (some b)) (.string key) ok).run P w = .ok (if ok then .tuple #[.agg #[.int .i64 ((mget l key).getD 0)], .bool (mget l key).isSome] else .agg #[.int .i64 ((mget l key).getD 0)]) w := by
  simp only [Instr.lookup, Sem.run_bind, run_underlying hu, Result.andThen_ok, run_getMap hb, Sem.run_pure, strV_check hk, strV_find hk]
  unfold mget
  cases h : mfind l key 0 with
  | none => cases ok <;> simp [run_zeroValue hi]
  | some x => cases ok <;> simp
theorem rd_lookupS {t k e : TypeId} {bt : Nat} {x y : Operand} {r N : Nat} {l : List (ByteArray × Int)} {key : ByteArray} {v : V} (hk : c.P.underlying k = some .string) (hu : c.P.underlying t = some (.map k e)) (hi : Inf c.P e 1 bt (.agg #[.int .i64 0])) (ho : o.op = .lookup t x y true) (hx : s.ev x = some (.mp r N (vrows l))) (hy : s.ev y = some (.s key))
    (hv : v = .tup [.agg [.i ((mget l key).getD 0)], .b (mget l key).isSome]) : RD c o s v := fun g a w hs => by
  have hx' : ∃ b, a.eval x = .map (some b) ∧ w.heap[b]? = some (.map (ments (vrows l)) (vrows l).length) := by
    have h := hs.ev hx
    generalize a.eval x = u at h
    cases h with
    | mp _ _ _ hN hm => exact ⟨_, rfl, hm⟩
  obtain ⟨b, hxe, hm⟩ := hx'
  have hye := VRep.p_eq (hs.ev hy)
  subst hv
  refine ⟨.tuple #[.agg #[.int .i64 ((mget l key).getD 0)], .bool (mget l key).isSome], ?_, fun w' hb => ?_⟩
  · refine .tup _ [.agg #[.int .i64 ((mget l key).getD 0)], .bool (mget l key).isSome] rfl fun j u z hu hz => ?_
    match j, hu, hz with
    | 0, hu, hz =>
      simp at hu hz
      subst hu hz
      refine .agg _ [.int .i64 ((mget l key).getD 0)] rfl fun j u z hu hz => ?_
      match j, hu, hz with
      | 0, hu, hz => simp at hu hz; subst hu hz; exact .d _ _ (.p _)
      | n + 1, hu, hz => simp at hu
    | 1, hu, hz => simp at hu hz; subst hu hz; exact .d _ _ (.p _)
    | n + 2, hu, hz => simp at hu
  have := run_lookupS (ok := true) (key := key) hk hu hi ((hb.block _ (Array.getElem?_eq_some_iff.1 hm).1).trans hm)
  simp only [execOp, ho, hxe, hye, Sem.run_bind, this, Result.andThen_ok]
  rfl
theorem rd_lookupS_hit {t k e : TypeId} {bt : Nat} {x y : Operand} {r N : Nat} {l : List (ByteArray × Int)} {key : ByteArray} {v : Int} (hk : c.P.underlying k = some .string) (hu : c.P.underlying t = some (.map k e)) (hi : Inf c.P e 1 bt (.agg #[.int .i64 0])) (ho : o.op = .lookup t x y true) (hx : s.ev x = some (.mp r N (vrows l))) (hy : s.ev y = some (.s key))
    (hv : mget l key = some v) : RD c o s (.tup [.agg [.i v], .b true]) := rd_lookupS hk hu hi ho hx hy (by rw [hv]; rfl)
theorem rd_lookupS_miss {t k e : TypeId} {bt : Nat} {x y : Operand} {r N : Nat} {l : List (ByteArray × Int)} {key : ByteArray} (hk : c.P.underlying k = some .string) (hu : c.P.underlying t = some (.map k e)) (hi : Inf c.P e 1 bt (.agg #[.int .i64 0])) (ho : o.op = .lookup t x y true) (hx : s.ev x = some (.mp r N (vrows l))) (hy : s.ev y = some (.s key))
    (hv : mget l key = none) : RD c o s (.tup [.agg [.i 0], .b false]) := rd_lookupS hk hu hi ho hx hy (by rw [hv]; rfl)
theorem st_mapUpdateS {t k e : TypeId} {x y z : Operand} {r N : Nat} {l : List (ByteArray × Int)} {key : ByteArray} {v : Int} (hk : c.P.underlying k = some .string) (hu : c.P.underlying t = some (.map k e)) (ho : o.op = .mapUpdate t x y z) (hd : o.dst = none) (hx : s.ev x = some (.mp r N (vrows l))) (hy : s.ev y = some (.s key)) (hz : s.ev z = some (.agg [.i v])) (hm0 : mget l key = none)
    (hN : N = c.w0.heap.size) (hH : s.H.all (fun x => !V.mpsL x.2.cells) = true) (hK : V.mpsL s.K = false) : Step c o s (fun s' => s' = ⟨s.n, s.T.map (fun x => (x.1, upM r (vrows (l ++ [(key, v)])) x.2)), s.H, s.K⟩) := by
  subst hN
  intro g a w hs K' Q hK'
  have hx' : a.eval x = .map (some (g r).1) ∧ c.w0.heap.size ≤ (g r).1 ∧ w.heap[(g r).1]? = some (.map (ments (vrows l)) (vrows l).length) := by
    have h := hs.ev hx
    generalize a.eval x = u at h
    cases h with
    | mp _ _ _ hN hm => exact ⟨rfl, hN, hm⟩
  obtain ⟨hxe, hNb, hm⟩ := hx'
  have hye := VRep.p_eq (hs.ev hy)
  have hze : a.eval z = .agg #[.int .i64 v] := by
    have h := hs.ev hz
    generalize a.eval z = u at h
    cases h with
    | agg _ cs hlen hh =>
      match cs, hlen with
      | [q], _ => rw [VRep.p_eq (hh 0 _ q rfl rfl)]
  have hnf : mfind l key 0 = none := by simpa [mget] using hm0
  have hrun : (Instr.mapUpdate t (.map (some (g r).1)) (.string key) (.agg #[.int .i64 v])).run c.P w = .ok () { w with heap := w.heap.setIfInBounds (g r).1 (.map (ments (vrows (l ++ [(key, v)]))) (vrows (l ++ [(key, v)])).length) } := by
    simp only [Instr.mapUpdate, Sem.run_bind, run_underlying hu, Result.andThen_ok, run_getMap hm, strV_check hk, strV_find hk, hnf, Option.map_none, run_setMap _ hm, ments_push]
    simp [vrows]
  unfold Oper.wp
  have hexec : (execOp a.eval o).run c.P w = .ok .skip { w with heap := w.heap.setIfInBounds (g r).1 (.map (ments (vrows (l ++ [(key, v)]))) (vrows (l ++ [(key, v)])).length) } := by
    simp only [execOp, ho, hxe, hye, hze, Sem.run_bind, hrun, Result.andThen_ok]
    rfl
  rw [hexec]
  simp only [Oper.upon, hd, Act.put]
  refine hK' g _ a _ rfl (hs.upMap hm hNb (fun k row hk => ?_) hK)
  have := List.all_eq_true.1 hH _ (fnd_mem hk)
  simpa using this
end
def isTxt : Value → Bool
  | .string _ => true
  | _ => false
/-- No key of a map of maps is a text. -/
def noTxt (l : List (Value × List (Value × Value))) : Bool := l.all fun x => !isTxt x.1 && x.2.all fun y => !isTxt y.1
/-- As upM, for a map with texts as keys: maps of maps without texts stay. -/
def upT (r : Nat) (l : List (Value × Value)) : V → V
  | .mp k N _ => if k = r then .mp k N l else .junk
  | .d (.mm L) => if noTxt L then .d (.mm L) else .junk
  | v => if v.mps then .junk else v
section
variable {c : Cx} {s : S} {o : Oper} {g : Nat → Nat × Nat} {a : Act} {w : World}
theorem Sim.upTxt (hs : Sim c g s a w) {r : Nat} {k0 : ByteArray} {v0 : Value} {l0 l' : List (Value × Value)} (hb : w.heap[(g r).1]? = some (.map (ments ((.string k0, v0) :: l0)) ((Value.string k0, v0) :: l0).length)) (hN : c.w0.heap.size ≤ (g r).1) (hH : ∀ k row, fnd s.H k = some row → V.mpsL row.cells = false) (hK : V.mpsL s.K = false) :
    Sim c g ⟨s.n, s.T.map (fun x => (x.1, upT r l' x.2)), s.H, s.K⟩ a { w with heap := w.heap.setIfInBounds (g r).1 (.map (ments l') l'.length) } := by
  have h1 := hs.upMap (l' := l') hb hN hH hK
  have hlt : (g r).1 < w.heap.size := (Array.getElem?_eq_some_iff.1 hb).1
  have hoth : ∀ b, b ≠ (g r).1 → (w.heap.setIfInBounds (g r).1 (.map (ments l') l'.length))[b]? = w.heap[b]? := fun b hne => Array.getElem?_setIfInBounds_ne (Ne.symm hne)
  refine ⟨h1.size, h1.defers, ?_, h1.nul, h1.obj, h1.keep, h1.inj, h1.base, h1.low, h1.below⟩
  intro i v hv
  simp only at hv
  rw [fnd_map] at hv
  cases hu : fnd s.T i with
  | none => rw [hu] at hv; cases hv
  | some u =>
    rw [hu] at hv
    simp only [Option.map_some, Option.some.injEq] at hv
    subst hv
    have h2 : fnd (s.T.map (fun x => (x.1, upM r l' x.2))) i = some (upM r l' u) := by rw [fnd_map, hu]; rfl
    obtain ⟨x, h3, h4⟩ := h1.tmp i _ h2
    refine ⟨x, h3, ?_⟩
    have key : ∀ L, u = .d (.mm L) → VRep { w with heap := w.heap.setIfInBounds (g r).1 (.map (ments l') l'.length) } (qt c s.H g) g (if noTxt L then .d (.mm L) else .junk) x := by
      rintro L rfl
      split
      · rename_i hno
        obtain ⟨x', h5, h6⟩ := hs.tmp i _ hu
        rw [h3] at h5
        simp only [Option.some.injEq] at h5
        subst h5
        have hne : ∀ (b : Nat) (es : List (Value × Value)), w.heap[b]? = some (.map (ments es) es.length) → (∀ y ∈ es, isTxt y.1 = false) → b ≠ (g r).1 := by
          rintro b es hm hes rfl
          rw [hb] at hm
          simp only [Option.some.injEq, Obj.map.injEq] at hm
          cases es with
          | nil => simp at hm
          | cons y es =>
            have h0 := congrArg (fun z : Array MapEntry => z[0]?) hm.1
            simp only [ments_get, List.getElem?_cons_zero, Option.map_some, Option.some.injEq, MapEntry.mk.injEq] at h0
            have := hes y List.mem_cons_self
            rw [← h0.1] at this
            simp [isTxt] at this
        unfold noTxt at hno
        rw [List.all_eq_true] at hno
        cases h6 with
        | d _ _ h6 =>
          cases h6 with
          | mm _ b bs hq hl hqs hm hi =>
            have hob : b ≠ (g r).1 := hne b ((L.map (·.1)).zip (bs.map fun k => Value.map (some k))) (by rw [hm]; congr 1; simp [hl]) fun y hy => by
              have h7 := (List.of_mem_zip hy).1
              obtain ⟨z, hz, h8⟩ := List.mem_map.1 h7
              have := hno z hz
              rw [← h8]
              simp at this
              exact this.1
            have hib : ∀ k ∈ bs, k ≠ (g r).1 := fun k hk => by
              obtain ⟨j, hj⟩ := List.getElem?_of_mem hk
              have hjl : j < L.length := by rw [hl]; exact (List.getElem?_eq_some_iff.1 hj).1
              have h7 := hi j _ k (List.getElem?_eq_getElem hjl) hj
              refine hne k _ h7 fun y hy => ?_
              have := hno _ (List.getElem_mem hjl)
              simp only [Bool.and_eq_true, List.all_eq_true, Bool.not_eq_true'] at this
              exact this.2 y hy
            refine .d _ _ (.mm L b bs ⟨hq.1, by simpa using hq.2⟩ hl (fun k hk => ⟨(hqs k hk).1, by simpa using (hqs k hk).2⟩) ((hoth b hob).trans hm) fun j x k h7 h8 => (hoth k (hib k (List.mem_of_getElem? h8))).trans (hi j x k h7 h8))
      exact .junk _
    cases u with
    | d x =>
      cases x with
      | mm L => exact key L rfl
      | p _ => exact h4
      | sl _ _ _ => exact h4
      | mp _ => exact h4
    | mp _ _ _ => exact h4
    | mm _ _ _ => exact h4
    | ad _ => exact h4
    | ref _ _ => exact h4
    | own _ _ _ _ => exact h4
    | que _ _ _ _ => exact h4
    | agg _ => exact h4
    | tup _ => exact h4
    | fn _ _ => exact h4
    | mq _ _ _ => exact h4
    | ifc _ _ => exact h4
    | mp2 _ _ _ _ _ _ => exact h4
    | it _ _ _ _ => exact h4
    | mit _ _ _ _ _ => exact h4
    | blk _ _ _ => exact h4
    | junk => exact h4
theorem st_mapUpdateT {t k e : TypeId} {x y z : Operand} {r N : Nat} {l : List (ByteArray × Int)} {key : ByteArray} {v : Int} (hk : c.P.underlying k = some .string) (hu : c.P.underlying t = some (.map k e)) (ho : o.op = .mapUpdate t x y z) (hd : o.dst = none) (hx : s.ev x = some (.mp r N (vrows l))) (hy : s.ev y = some (.s key)) (hz : s.ev z = some (.agg [.i v])) (hm0 : mget l key = none) (hne : l ≠ [])
    (hN : N = c.w0.heap.size) (hH : s.H.all (fun x => !V.mpsL x.2.cells) = true) (hK : V.mpsL s.K = false) : Step c o s (fun s' => s' = ⟨s.n, s.T.map (fun x => (x.1, upT r (vrows (l ++ [(key, v)])) x.2)), s.H, s.K⟩) := by
  subst hN
  intro g a w hs K' Q hK'
  have hx' : a.eval x = .map (some (g r).1) ∧ c.w0.heap.size ≤ (g r).1 ∧ w.heap[(g r).1]? = some (.map (ments (vrows l)) (vrows l).length) := by
    have h := hs.ev hx
    generalize a.eval x = u at h
    cases h with
    | mp _ _ _ hN hm => exact ⟨rfl, hN, hm⟩
  obtain ⟨hxe, hNb, hm⟩ := hx'
  have hye := VRep.p_eq (hs.ev hy)
  have hze : a.eval z = .agg #[.int .i64 v] := by
    have h := hs.ev hz
    generalize a.eval z = u at h
    cases h with
    | agg _ cs hlen hh =>
      match cs, hlen with
      | [q], _ => rw [VRep.p_eq (hh 0 _ q rfl rfl)]
  have hnf : mfind l key 0 = none := by simpa [mget] using hm0
  have hrun : (Instr.mapUpdate t (.map (some (g r).1)) (.string key) (.agg #[.int .i64 v])).run c.P w = .ok () { w with heap := w.heap.setIfInBounds (g r).1 (.map (ments (vrows (l ++ [(key, v)]))) (vrows (l ++ [(key, v)])).length) } := by
    simp only [Instr.mapUpdate, Sem.run_bind, run_underlying hu, Result.andThen_ok, run_getMap hm, strV_check hk, strV_find hk, hnf, Option.map_none, run_setMap _ hm, ments_push]
    simp [vrows]
  unfold Oper.wp
  have hexec : (execOp a.eval o).run c.P w = .ok .skip { w with heap := w.heap.setIfInBounds (g r).1 (.map (ments (vrows (l ++ [(key, v)]))) (vrows (l ++ [(key, v)])).length) } := by
    simp only [execOp, ho, hxe, hye, hze, Sem.run_bind, hrun, Result.andThen_ok]
    rfl
  rw [hexec]
  simp only [Oper.upon, hd, Act.put]
  obtain ⟨⟨k0, v0⟩, l0, rfl⟩ := List.exists_cons_of_ne_nil hne
  refine hK' g _ a _ rfl (hs.upTxt (k0 := k0) hm hNb (rows_hH hH) hK)
/-- A map literal's one entry. -/
theorem st_insertS {t k e : TypeId} {x y z : Operand} {r N : Nat} {key : ByteArray} {v : Int} (hk : c.P.underlying k = some .string) (hu : c.P.underlying t = some (.map k e)) (ho : o.op = .insert t x y z) (hd : o.dst = none) (hx : s.ev x = some (.mp r N [])) (hy : s.ev y = some (.s key)) (hz : s.ev z = some (.agg [.i v]))
    (hN : N = c.w0.heap.size) (hH : s.H.all (fun x => !V.mpsL x.2.cells) = true) (hK : V.mpsL s.K = false) : Step c o s (fun s' => s' = ⟨s.n, s.T.map (fun x => (x.1, upM r (vrows [(key, v)]) x.2)), s.H, s.K⟩) := by
  have key := st_mapUpdateS (l := []) (o := { o with op := .mapUpdate t x y z }) hk hu rfl hd hx hy hz rfl hN hH hK
  intro g a w hs K' Q hK'
  have h := key g a w hs K' Q hK'
  unfold Oper.wp at h ⊢
  simp only [execOp, ho] at h ⊢
  exact h
end
section
variable (r : Nat) (l : List (Value × Value))
theorem upT_p (x : Value) : upT r l (.d (.p x)) = .d (.p x) := rfl
theorem upT_ref (a b : Nat) : upT r l (.ref a b) = .ref a b := rfl
theorem upT_own (a b n : Nat) (z : Bool) : upT r l (.own a b n z) = .own a b n z := rfl
theorem upT_junk : upT r l .junk = .junk := rfl
theorem upT_mp (N : Nat) (l0 : List (Value × Value)) : upT r l (.mp r N l0) = .mp r N l := by simp [upT]
theorem upT_mm {L : List (Value × List (Value × Value))} (h : noTxt L = true) : upT r l (.d (.mm L)) = .d (.mm L) := by simp [upT, h]
theorem upT_sl {sz bt : Nat} {rows : List (List D)} (h : D.mpsR rows = false) : upT r l (.d (.sl sz bt rows)) = .d (.sl sz bt rows) := by simp [upT, V.mps, D.mps, h]
theorem upT_tup {x : List V} (h : V.mpsL x = false) : upT r l (.tup x) = .tup x := by simp [upT, V.mps, h]
end
theorem noTxt_mmr {K : Type} {enc : K → Value} (h : ∀ a, isTxt (enc a) = false) (L : List (K × List (Int × Int))) : noTxt (mmr enc L) = true := by
  unfold noTxt
  rw [List.all_eq_true]
  intro x hx
  obtain ⟨y, _, rfl⟩ := List.mem_map.1 hx
  simp only [h, Bool.not_false, Bool.true_and, List.all_eq_true, Bool.not_eq_true']
  intro z hz
  obtain ⟨u, _, rfl⟩ := List.mem_map.1 hz
  rfl
end Go.Proofs.YthiknkcigcglkaaDoor
