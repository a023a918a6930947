-- %hmode
-- %heap
/- best.Costs: the n cheapest ends, by a heap of ways. -/
import Derived.Test.YtnpbdcjfealoeaaAmHpB
import Derived.Test.YtnpbdcjfealoeaaAmKcR
import Derived.Test.YtnpbdcjfealoeaaAmEnds
import Derived.Test.YtnpbdcjfealoeaaAmCheck
namespace Go.Proofs.Ytnpbdcjfealoeaa
open Go.RowKit
set_option linter.unusedSimpArgs false
set_option linter.unusedVariables false
set_option maxRecDepth 100000

theorem kg_of {m : Mach} (h0 : machE m = 0) (he : disE (enD m) m = 0) : KG m.states (fInit (enF m)) (fEdge (enE m)) ∧ (∀ q, q < m.states.length → (disL (enD m) m)[q]? = some (tell (dst (fInit (enF m)) (fEdge (enE m)) q))) ∧ ∀ q, m.states.length ≤ q → dst (fInit (enF m)) (fEdge (enE m)) q = big := by
 obtain ⟨h60, h400, hst, hz⟩ := machE_zero h0
 have hed : ∀ {p q w}, fEdge (enE m) p q w ↔ _ := fun {p q w} => en_edge (m := m) (fun s hs a ha => by have := (hz s hs).2 a ha; simp only [arOk, decide_eq_true_eq] at this; omega)
 have hfin : ∀ s ∈ m.states, s.fin = 1000000001 ∨ 0 ≤ s.fin ∧ s.fin ≤ 1000000000 := fun s hs => by
  have := (hz s hs).1
  simp only [finOk, Bool.or_eq_true, decide_eq_true_eq] at this
  omega
 have hlt : ∀ {q d : Nat}, Pth (fInit (enF m)) (fEdge (enE m)) q d → q < m.states.length := fun {q d} h => by
  cases h with
  | init _ _ h => exact (en_init.1 h).1
  | step p _ d w h e =>
   obtain ⟨x, j, a, h1, _⟩ := hed.1 e
   exact (List.getElem?_eq_some_iff.1 h1).1
 have hgt : ∀ q, q < m.states.length → (enD m)[q]? = some (dst (fInit (enF m)) (fEdge (enE m)) q) := fun q hq => by simp [enD, dstL, List.getElem?_range hq]
 have hall : (enD m).all okD = true := by
  unfold disE at he
  rw [if_neg (by simp [h0])] at he
  by_cases h : (enD m).all okD = true
  ·exact h
  ·rw [if_neg h] at he; omega
 refine ⟨⟨fun {q d} => ?_, hed, fun q h => ?_, hfin, fun s hs a ha => ?_⟩, fun q hq => ?_, fun q hq => ?_⟩
 ·constructor
  ·intro h
   obtain ⟨h1, h2, h3⟩ := en_init.1 h
   have hs : m.states[q]? = some m.states[q] := List.getElem?_eq_getElem h1
   rw [stF_of hs] at h2
   have := hfin _ (List.getElem_mem h1)
   exact ⟨_, hs, by omega, h3⟩
  ·rintro ⟨s, hs, h1, h2⟩
   exact en_init.2 ⟨(List.getElem?_eq_some_iff.1 hs).1, by rw [stF_of hs]; omega, h2⟩
 ·have hq := hlt ((dst_spec (Init := fInit (enF m)) (Edge := fEdge (enE m)) q).2.1 h)
  have := List.all_eq_true.1 hall _ (List.mem_of_getElem? (hgt q hq))
  simp only [okD, decide_eq_true_eq] at this
  omega
 ·have := (hz s hs).2 a ha
  simp only [arOk, decide_eq_true_eq] at this
  omega
 ·unfold disL
  rw [if_pos he, List.getElem?_map, hgt q hq, Option.map_some]
 ·have h1 := (dst_spec (Init := fInit (enF m)) (Edge := fEdge (enE m)) q).1
  refine Classical.byContradiction fun h => ?_
  have := hlt ((dst_spec (Init := fInit (enF m)) (Edge := fEdge (enE m)) q).2.1 (by omega))
  omega
def exps (N : Nat) (l : List Nat) : Nat := (l.map (min N)).sum
theorem exps_le (N : Nat) (l : List Nat) : exps N l ≤ l.length * N := sum_const fun x _ => Nat.min_le_left _ _
theorem exps_set {N x : Nat} : ∀ {l : List Nat} {q : Nat}, l[q]? = some x → exps N (l.set q (x + 1)) = exps N l + if x < N then 1 else 0
 | [], q, h => by simp at h
 | y :: l, 0, h => by
  simp only [List.getElem?_cons_zero, Option.some.injEq] at h
  subst h
  simp only [exps, List.set_cons_zero, List.map_cons, List.sum_cons]
  split <;> omega
 | y :: l, q + 1, h => by
  have := exps_set (N := N) (l := l) (q := q) (by simpa using h)
  simp only [exps, List.set_cons_succ, List.map_cons, List.sum_cons] at this ⊢
  omega
def snF (l : List Nat) : Nat → Nat := fun r => l.getD r 0
theorem snF_get {l : List Nat} {q x : Nat} (h : l[q]? = some x) : snF l q = x := by simp [snF, List.getD_eq_getElem?_getD, h]
theorem snF_set {l : List Nat} {q x : Nat} (h : l[q]? = some x) : snF (l.set q (x + 1)) = snU (snF l) q := by
 funext r
 unfold snU
 have hq := (List.getElem?_eq_some_iff.1 h).1
 by_cases e : r = q
 ·subst e
  rw [if_pos rfl, snF_get h]
  exact snF_get (List.getElem?_set_self hq)
 ·rw [if_neg e]
  simp [snF, List.getD_eq_getElem?_getD, List.getElem?_set_ne (Ne.symm e)]
theorem snF_zero (n : Nat) : snF (List.replicate n 0) = fun _ => 0 := by
 funext r
 simp only [snF, List.getD_eq_getElem?_getD, List.getElem?_replicate]
 split <;> rfl
theorem exps_zero (N n : Nat) : exps N (List.replicate n 0) = 0 := by simp [exps]
theorem lowL_nB {b : Nat} (l : List Nat) : V.lowL b (l.map V.n) = true := by
 induction l with
 | nil => rfl
 | cons x l ih => simp only [List.map_cons, V.lowL, ih, Bool.and_true]; rfl
theorem chA_none {D : Nat → Nat} {c : Nat} {a : Ar} {l : List Ar} (h : D a.t.toNat = big) : chA D c (a :: l) = chA D c l := List.filterMap_cons_none (if_pos h)
theorem chA_some {D : Nat → Nat} {c : Nat} {a : Ar} {l : List Ar} (h : D a.t.toNat ≠ big) : chA D c (a :: l) = ⟨a.t, c + a.w.toNat, c + a.w.toNat + D a.t.toNat⟩ :: chA D c l := List.filterMap_cons_some (if_neg h)

set_option maxHeartbeats 1600000 in
theorem am_Costs0 (m : Mach) (nn : Int) : Fn Try.prog 43 [mV m, .i nn] (resK (kbE m nn) (kbA m nn)) := by
 by_cases h0 : machE m = 0
 ·by_cases hN : 0 ≤ nn ∧ nn ≤ 20
  ·obtain ⟨N, rfl⟩ : ∃ N : Nat, nn = N := ⟨nn.toNat, by omega⟩
   have hN20 : N ≤ 20 := by omega
   by_cases hd : disE (enD m) m = 0
   ·have hcon := resI_eq (am_Ends0 m) hd
    have hF := Fn.eqi (am_Check m) h0
    have hbig := big_eq
    obtain ⟨h60, h400, hst, hz⟩ := machE_zero h0
    obtain ⟨hKG, hT, hout⟩ := kg_of h0 hd
    have hE : kbE m (N : Int) = if m.start < 0 then 0 else if (kbL m N).all (fun x => decide (x ≤ 1000000000)) = true then 0 else 4 := by
     unfold kbE; rw [if_neg (by simp [h0]), if_neg (by simp; omega), if_neg (by simp [hd]), Int.toNat_natCast]
    have hA : kbA m (N : Int) = if kbE m (N : Int) = 0 ∧ 0 ≤ m.start then kbL m N else [] := by unfold kbA; rw [Int.toNat_natCast]
    obtain ⟨e, he⟩ : ∃ e, kbE m (N : Int) = e := ⟨_, rfl⟩
    obtain ⟨A, hAA⟩ : ∃ A, kbA m (N : Int) = A := ⟨_, rfl⟩
    have hkb : kbL m N = rlC N m.states (m.states.length * (N + 1) + 1) m.start.toNat := rfl
    rw [he] at hE hA
    rw [hAA] at hA
    rw [hkb] at hE hA
    rw [he, hAA]
    clear he hAA hkb hd
    obtain ⟨T, hTE⟩ : ∃ T, disL (enD m) m = T := ⟨_, rfl⟩
    rw [hTE] at hT hcon
    obtain ⟨I, hI⟩ : ∃ I, fInit (enF m) = I := ⟨_, rfl⟩
    obtain ⟨G, hG⟩ : ∃ G, fEdge (enE m) = G := ⟨_, rfl⟩
    rw [hI, hG] at hKG hT hout
    clear hTE hI hG
    obtain ⟨st, sts⟩ := m
    simp only at h60 h400 hst hz hE hA hKG hT hout
    have hal4 : ∀ x ∈ sts, x.arcs.length ≤ 400 := fun x hx => Nat.le_trans (arcN_mem sts x hx) h400
    have hfz := hKG.fin
    have hza := hKG.arc
    have hEd : Ed N sts I G (cntC N sts (sts.length * (N + 1) + 1)) := ed_of hKG (by rw [Nat.mul_add]; omega)
    have hbnd := fun q => rlC_bnd (N := N) hfz (fun s hs a ha => (hza s hs a ha).2.2) (sts.length * (N + 1) + 1) q
    have hrp := fun q => rlC_rp (N := N) hfz (sts.length * (N + 1) + 1) q
    have hMb : sts.length * (N + 1) ≤ 1260 := Nat.mul_le_mul h60 (show N + 1 ≤ 21 by omega)
    obtain ⟨E, hEE⟩ : ∃ E, cntC N sts (sts.length * (N + 1) + 1) = E := ⟨_, rfl⟩
    rw [hEE] at hEd hrp
    -- the document's list, and what it counts
    obtain ⟨L0, E0, hL0, hL0s, hL0b, hE0, hr1, hr2⟩ : ∃ (L0 : List Nat) (E0 : Nat → Nat), (∀ v, v < big → cnt L0 v = E0 v) ∧ L0.Pairwise (· ≤ ·) ∧ (∀ x ∈ L0, x < big) ∧ (∀ v, E0 v = if st < 0 then 0 else E st.toNat v) ∧ ((∀ y ∈ L0, y ≤ 1000000000) → e = 0 ∧ A = L0) ∧ ((∃ y ∈ L0, 1000000000 < y) → e = 4 ∧ A = []) := by
     by_cases hs0 : st < 0
     ·rw [if_pos hs0] at hE
      subst hE
      rw [if_neg (by omega)] at hA
      exact ⟨[], fun _ => 0, fun v _ => rfl, List.Pairwise.nil, by simp, fun v => by rw [if_pos hs0], fun _ => ⟨rfl, hA⟩, fun ⟨y, hy, _⟩ => by cases hy⟩
     ·rw [if_neg hs0] at hE
      have hR := hrp st.toNat
      refine ⟨rlC N sts (sts.length * (N + 1) + 1) st.toNat, E st.toNat, fun v _ => by rw [hR.cnt v]; exact Nat.min_eq_right (hEd.le _ _), hR.srt, fun x hx => by have := hbnd _ x hx; omega, fun v => by rw [if_neg hs0], fun hall => ?_, fun ⟨y, hy, hlt⟩ => ?_⟩
      ·rw [if_pos (List.all_eq_true.2 fun x hx => decide_eq_true (hall x hx))] at hE
       subst hE
       rw [if_pos ⟨rfl, by omega⟩] at hA
       exact ⟨rfl, hA⟩
      ·rw [if_neg (fun h => by have := List.all_eq_true.1 h y hy; simp only [decide_eq_true_eq] at this; omega)] at hE
       subst hE
       rw [if_neg (by omega)] at hA
       exact ⟨rfl, hA⟩
    have hfin : ∀ out : List Nat, out.Pairwise (· ≤ ·) → (∀ y ∈ out, y ≤ 1000000000) → (∀ v, v < big → cnt out v = E0 v) → e = 0 ∧ A = out := fun out h1 h2 h3 => by
     obtain rfl : out = L0 := cnt_ext h1 hL0s (fun x hx => by have := h2 x hx; omega) hL0b fun v hv => (h3 v hv).trans (hL0 v hv).symm
     exact hr1 h2
    obtain ⟨n, hn⟩ : ∃ n, sts.length = n := ⟨_, rfl⟩
    obtain ⟨P, hP⟩ : ∃ P, n * N = P := ⟨_, rfl⟩
    rw [hn] at h60 hst hza hT hMb hout
    have hPb : P ≤ 1200 := by rw [← hP]; exact Nat.mul_le_mul h60 hN20
    have hexP : ∀ SN : List Nat, SN.length = n → exps N SN ≤ P := fun SN h => by rw [← hP, ← h]; exact exps_le N SN
    clear hz h400 h0 hE hA hr1 hEE hbnd hrp hP hL0s hL0b hMb
    refine Fn.intro (n := 154) ⟨Try.func43, rfl, rfl, rfl, rfl⟩ (by simp [V.pure, V.has, V.hasL]) (by simp) fun w0 out => ?_
    refine AW.seq ?_
    refine AW.region ?_
    refine AL.sm rfl (sm_box 2 rfl rfl rfl rfl rfl) ?_
    refine AL.rp rfl rfl (rp_assign rfl rfl) ?_
    refine AL.rp rfl rfl (rp_assign rfl rfl) ?_
    refine AL.nil ?_
    try simp only [thenS, S.put, S.newObj, setL, V.cs, List.length_cons, List.length_nil, List.take_succ_cons, List.take_zero, List.drop_succ_cons, List.drop_zero, List.drop_nil, List.nil_append, List.cons_append, List.append_nil, Nat.zero_add, Nat.reduceAdd, List.map_cons, List.map_nil, List.set_cons_zero, List.set_cons_succ, enum]
    refine AW.seq ?_
    refine AW.seq ?_
    refine AW.region ?_
    refine AL.rd rfl rfl (rd_loads_ref Try.underlying24 rfl inf24 rfl rfl rfl rfl rfl rfl) ?_
    refine AL.call (post := ?pc11) rfl (sm_call (args := [_]) ?hc11 ⟨Try.func45, rfl, rfl, rfl, rfl⟩ rfl rfl rfl rfl) ?_
    case hc11 => exact hF
    rintro _ rfl -
    try dsimp only
    refine AL.rp rfl rfl (rp_assign rfl rfl) ?_
    refine AL.nil ?_
    try simp only [thenS, S.put, S.newObj, setL, V.cs, List.length_cons, List.length_nil, List.take_succ_cons, List.take_zero, List.drop_succ_cons, List.drop_zero, List.drop_nil, List.nil_append, List.cons_append, List.append_nil, Nat.zero_add, Nat.reduceAdd, List.map_cons, List.map_nil, List.set_cons_zero, List.set_cons_succ]
    refine AW.seq ?_
    refine AW.region ?_
    refine AL.rp rfl rfl (rp_move rfl rfl) ?_
    (refine AL.rp rfl rfl (rp_neqF rfl rfl rfl (by first | assumption | omega | (dsimp only; omega))) ?_)
    refine AL.nil ?_
    try simp only [thenS, S.put]
    refine AW.condF rfl ?_
    refine AW.skip ?_
    try simp only [thenS]
    refine AW.seq ?_
    refine AW.seq ?_
    refine AW.region ?_
    refine AL.rp rfl rfl (rp_move rfl rfl) ?_
    (refine AL.rp rfl rfl (rp_lssF rfl rfl rfl (by first | assumption | omega | (dsimp only; omega))) ?_)
    refine AL.rp rfl rfl (rp_move rfl rfl) ?_
    refine AL.rpy rfl rfl rfl (rp_move rfl rfl) ?_
    (refine AL.rpy rfl rfl rfl (rp_gtrF rfl rfl rfl (by first | assumption | omega | (dsimp only; omega))) ?_)
    refine AL.rp rfl rfl (rp_pick rfl rfl rfl) ?_
    refine AL.nil ?_
    try simp only [thenS, S.put]
    refine AW.condF rfl ?_
    refine AW.skip ?_
    try simp only [thenS]
    refine AW.seq ?_
    refine AW.region ?_
    refine AL.rd rfl rfl (rd_loads_ref Try.underlying24 rfl inf24 rfl rfl rfl rfl rfl rfl) ?_
    refine AL.call (post := ?pc12) rfl (sm_call (args := [_]) ?hc12 ⟨Try.func65, rfl, rfl, rfl, rfl⟩ rfl rfl rfl rfl) ?_
    case hc12 => exact hcon
    rintro _ rfl -
    try dsimp only
    refine AL.rp rfl rfl (rp_move rfl rfl) ?_
    refine AL.rp rfl rfl (rp_extract rfl rfl rfl) ?_
    refine AL.rp rfl rfl (rp_extract rfl rfl rfl) ?_
    refine AL.rp rfl rfl (rp_assign rfl rfl) ?_
    refine AL.rp rfl rfl (rp_assign rfl rfl) ?_
    refine AL.nil ?_
    try simp only [thenS, S.put, S.newObj, setL, V.cs, List.length_cons, List.length_nil, List.take_succ_cons, List.take_zero, List.drop_succ_cons, List.drop_zero, List.drop_nil, List.nil_append, List.cons_append, List.append_nil, Nat.zero_add, Nat.reduceAdd, List.map_cons, List.map_nil, List.set_cons_zero, List.set_cons_succ]
    refine AW.seq ?_
    refine AW.seq ?_
    refine AW.region ?_
    refine AL.rp rfl rfl (rp_move rfl rfl) ?_
    (refine AL.rp rfl rfl (rp_neqF rfl rfl rfl (by first | assumption | omega | (dsimp only; omega))) ?_)
    refine AL.nil ?_
    try simp only [thenS, S.put]
    refine AW.condF rfl ?_
    refine AW.skip ?_
    try simp only [thenS]
    refine AW.seq ?_
    refine AW.region ?_
    refine AL.rp rfl rfl (rp_assign rfl rfl) ?_
    refine AL.nil ?_
    try simp only [thenS, S.put]
    refine AW.seq ?_
    refine AW.region ?_
    refine AL.sm rfl (sm_alloc (l := [.d (.p (.slice none 0 0))]) 900 inf110 rfl rfl rfl rfl) ?_
    refine AL.nil ?_
    try simp only [thenS, S.put, S.newObj, setL, V.cs, List.length_cons, List.length_nil, List.take_succ_cons, List.take_zero, List.drop_succ_cons, List.drop_zero, List.drop_nil, List.nil_append, List.cons_append, List.append_nil, Nat.zero_add, Nat.reduceAdd, List.map_cons, List.map_nil, List.set_cons_zero, List.set_cons_succ]
    refine AW.adopt 9 100 1 3 rfl (by simp [S.clean, V.has, V.hasL, V.cs, setL]) ?_
    refine AW.seqc (fun s' => ∃ (Q : List Wy) (f : Bool), Q.length ≤ 1 ∧ (f = true → Q = []) ∧ Hp HB.key Q ∧ Kb N sts I G E E0 [] Q (fun _ => 0) 0 0 ∧ s' = ⟨154, [(1, .i N), (2, .ref 2 0), (7, .d (intsN T)), (9, .own 100 1 0 true), (10, .ref 900 0)], hpBl Q f [(2, ⟨24, [.i st, .d (stsD sts)], false, 0⟩), (100, ⟨3, [], true, 1⟩)], []⟩) ?_ ?_
    ·skip
     by_cases hs0 : st < 0
     ·have hk : Kb N sts I G E E0 [] [] (fun _ => 0) 0 0 := Kb.none fun v _ => by rw [hE0, if_pos hs0]
      refine AW.adoptH 900 0 901 3 112 rfl rfl rfl (by simp [S.clean, V.has, V.hasL, V.cs, setL]) ?_
      refine AW.seq ?_
      refine AW.region ?_
      refine AL.rp rfl rfl (rp_field_ref Try.underlying24 rfl rfl rfl inf3 (by decide) rfl) ?_
      refine AL.rd rfl rfl (rd_load_ref Try.underlying3 rfl rfl rfl rfl rfl rfl) ?_
      (refine AL.rp rfl rfl (rp_geqF rfl rfl rfl (by first | assumption | omega | (dsimp only; omega))) ?_)
      refine AL.rp rfl rfl (rp_move rfl rfl) ?_
      refine AL.noV rfl rfl rfl rfl ?_
      refine AL.noV rfl rfl rfl rfl ?_
      refine AL.noV rfl rfl rfl rfl ?_
      refine AL.noV rfl rfl rfl rfl ?_
      refine AL.noV rfl rfl rfl rfl ?_
      refine AL.noV rfl rfl rfl rfl ?_
      refine AL.rp rfl rfl (rp_pick rfl rfl rfl) ?_
      refine AL.nil ?_
      try simp only [thenS, S.put]
      refine AW.condF rfl ?_
      refine AW.skip ?_
      try simp only [thenS]
      refine ⟨_, ?_, [], true, by simp, fun _ => rfl, hp_nil, hk, rfl⟩
      exact (Less.of rfl (by repeat (first | exact trivial | refine ⟨⟨_, rfl, Wk.refl _⟩, ?_⟩ | refine ⟨⟨_, rfl, Wk.nil _ _⟩, ?_⟩ | refine ⟨⟨_, rfl, Wk.junk _⟩, ?_⟩)) (by repeat (first | exact trivial | refine ⟨rfl, ?_⟩)) rfl)
     ·obtain ⟨p, rfl⟩ : ∃ p : Nat, st = p := ⟨st.toNat, by omega⟩
      have hpn : p < n := by omega
      have hTp := hT p hpn
      have hE0' : E0 = E p := by funext v; rw [hE0, if_neg hs0, Int.toNat_natCast]
      by_cases hdp : dst I G p = big
      ·have hk : Kb N sts I G E E0 [] [] (fun _ => 0) 0 0 := Kb.none fun v hv => by
        rw [hE0']
        refine Classical.byContradiction fun h => ?_
        have := hEd.zero p v hv (by omega)
        omega
       have htl : tell (dst I G p) = 1000000001 := by unfold tell; rw [if_pos hdp]
       rw [htl] at hTp
       clear htl hdp hcon hF hKG hEd hL0 hr2 hfin hexP hal4 hfz hza hT hout hbig
       refine AW.adoptH 900 0 901 3 112 rfl rfl rfl (by simp [S.clean, V.has, V.hasL, V.cs, setL]) ?_
       refine AW.seq ?_
       refine AW.region ?_
       refine AL.rp rfl rfl (rp_field_ref Try.underlying24 rfl rfl rfl inf3 (by decide) rfl) ?_
       refine AL.rd rfl rfl (rd_load_ref Try.underlying3 rfl rfl rfl rfl rfl rfl) ?_
       (refine AL.rp rfl rfl (rp_geqT rfl rfl rfl (by first | assumption | omega | (dsimp only; omega))) ?_)
       refine AL.rp rfl rfl (rp_move rfl rfl) ?_
       refine AL.rpy rfl rfl rfl (rp_move rfl rfl) ?_
       refine AL.rpy rfl rfl rfl (rp_field_ref Try.underlying24 rfl rfl rfl inf3 (by decide) rfl) ?_
       refine AL.rdy rfl rfl rfl (rd_load_ref Try.underlying3 rfl rfl rfl rfl rfl rfl) ?_
       refine AL.rpy rfl rfl rfl (rp_index_map Try.underlying29 inf3 rfl rfl rfl rfl (by assumption)) ?_
       refine AL.rdy rfl rfl rfl (rd_load_ad Try.underlying3 rfl rfl rfl rfl) ?_
       (refine AL.rpy rfl rfl rfl (rp_neqF rfl rfl rfl (by first | assumption | omega | (dsimp only; omega))) ?_)
       refine AL.rp rfl rfl (rp_pick rfl rfl rfl) ?_
       refine AL.nil ?_
       try simp only [thenS, S.put]
       refine AW.condF rfl ?_
       refine AW.skip ?_
       try simp only [thenS]
       refine ⟨_, ?_, [], true, by simp, fun _ => rfl, hp_nil, hk, rfl⟩
       exact (Less.of rfl (by repeat (first | exact trivial | refine ⟨⟨_, rfl, Wk.refl _⟩, ?_⟩ | refine ⟨⟨_, rfl, Wk.nil _ _⟩, ?_⟩ | refine ⟨⟨_, rfl, Wk.junk _⟩, ?_⟩)) (by repeat (first | exact trivial | refine ⟨rfl, ?_⟩)) rfl)
      ·have hdb : dst I G p < big := by have := (dst_spec (Init := I) (Edge := G) p).1; omega
       have hd9 := hKG.low p hdb
       have hk : Kb N sts I G E (E p) [] [⟨(p : Int), 0, dst I G p⟩] (fun _ => 0) 0 0 := Kb.start (by omega) hdb (hEd.le p)
       rw [← hE0'] at hk
       have htl : tell (dst I G p) = dst I G p := by unfold tell; rw [if_neg hdp]
       rw [htl] at hTp
       obtain ⟨dp, hdp'⟩ : ∃ d, dst I G p = d := ⟨_, rfl⟩
       rw [hdp'] at hk hTp hd9
       have hne : ¬ ((dp : Nat) : Int) = 1000000001 := by omega
       clear htl hdp hdb hdp' hE0' hcon hF hKG hEd hL0 hr2 hfin hexP hal4 hfz hza hT hout hbig
       refine AW.seq ?_
       refine AW.region ?_
       refine AL.rp rfl rfl (rp_field_ref Try.underlying24 rfl rfl rfl inf3 (by decide) rfl) ?_
       refine AL.rd rfl rfl (rd_load_ref Try.underlying3 rfl rfl rfl rfl rfl rfl) ?_
       (refine AL.rp rfl rfl (rp_geqT rfl rfl rfl (by first | assumption | omega | (dsimp only; omega))) ?_)
       refine AL.rp rfl rfl (rp_move rfl rfl) ?_
       refine AL.rpy rfl rfl rfl (rp_move rfl rfl) ?_
       refine AL.rpy rfl rfl rfl (rp_field_ref Try.underlying24 rfl rfl rfl inf3 (by decide) rfl) ?_
       refine AL.rdy rfl rfl rfl (rd_load_ref Try.underlying3 rfl rfl rfl rfl rfl rfl) ?_
       refine AL.rpy rfl rfl rfl (rp_index_map Try.underlying29 inf3 rfl rfl rfl rfl (by assumption)) ?_
       refine AL.rdy rfl rfl rfl (rd_load_ad Try.underlying3 rfl rfl rfl rfl) ?_
       (refine AL.rpy rfl rfl rfl (rp_neqT rfl rfl rfl (by first | assumption | omega | (dsimp only; omega))) ?_)
       refine AL.rp rfl rfl (rp_pick rfl rfl rfl) ?_
       refine AL.nil ?_
       try simp only [thenS, S.put]
       refine AW.condT rfl ?_
       refine AW.draw [(0, true), (1, true), (2, true), (3, true), (4, true), (5, true), (6, true), (7, true), (8, false), (9, false)] (fun i => !([9] : List Nat).contains i) 10 (by kernel_rfl) (by kernel_rfl) rfl (by kernel_rfl) ?_
       refine AD1.rp rfl rfl rfl (fun _ _ h => h) (rp_field_ref Try.underlying24 rfl rfl rfl inf3 (by decide) rfl) ?_
       refine AD1.rd rfl rfl rfl (fun _ _ h => h) (rd_load_ref Try.underlying3 rfl rfl rfl rfl rfl rfl) ?_
       refine AD1.rp rfl rfl rfl (fun _ _ h => h) (rp_move rfl rfl) ?_
       refine AD1.rp rfl rfl rfl (fun _ _ h => h) (rp_field_ref Try.underlying24 rfl rfl rfl inf3 (by decide) rfl) ?_
       refine AD1.rd rfl rfl rfl (fun _ _ h => h) (rd_load_ref Try.underlying3 rfl rfl rfl rfl rfl rfl) ?_
       refine AD1.rp rfl rfl rfl (fun _ _ h => h) (rp_index_map Try.underlying29 inf3 rfl rfl rfl rfl (by assumption)) ?_
       refine AD1.rd rfl rfl rfl (fun _ _ h => h) (rd_load_ad Try.underlying3 rfl rfl rfl rfl) ?_
       refine AD1.rp rfl rfl rfl (fun _ _ h => h) (rp_build (vs := [(0, _), (1, _), (2, _)]) (zs := [.d (.p (.int .i64 0)), .d (.p (.int .i64 0)), .d (.p (.int .i64 0))]) pl112 inf112 rfl rfl rfl rfl) ?_
       refine AD1.go ?_
       refine AD2.sm rfl rfl (sm_slice (vs := [(0, _)]) (zs := [.d (.p (.int .i64 0)), .d (.p (.int .i64 0)), .d (.p (.int .i64 0))]) 901 Try.underlying110 inf112 rfl rfl (by decide) (by decide) (by decide) rfl rfl rfl rfl rfl rfl rfl) ?_
       refine AD2.go ?_
       (refine AD3.st rfl rfl rfl (st_store inf110 rfl rfl rfl rfl rfl rfl rfl (by first | decide | (simp; done)) rfl) ?_)
       refine AD3.nil ?_
       try simp only [thenS, S.put, S.newObj, setL, V.cs, List.length_cons, List.length_nil, List.take_succ_cons, List.take_zero, List.drop_succ_cons, List.drop_zero, List.drop_nil, List.nil_append, List.cons_append, List.append_nil, Nat.zero_add, Nat.reduceAdd, List.map_cons, List.map_nil, List.set_cons_zero, List.set_cons_succ]
       refine ⟨_, ?_, [⟨(p : Int), 0, dp⟩], false, Nat.le_refl _, (fun h => by cases h), ⟨fun k x y h1 h2 => by simp at h2; omega⟩, hk, rfl⟩
       exact (Less.of rfl (by repeat (first | exact trivial | refine ⟨⟨_, rfl, Wk.refl _⟩, ?_⟩ | refine ⟨⟨_, rfl, Wk.nil _ _⟩, ?_⟩ | refine ⟨⟨_, rfl, Wk.junk _⟩, ?_⟩)) (by repeat (first | exact trivial | refine ⟨rfl, ?_⟩)) rfl)
    rintro s' ⟨Q, f, hQ1, hf, hhp, hKb, rfl⟩
    refine AW.seq ?_
    refine AW.region ?_
    refine AL.rp rfl rfl (rp_field_ref Try.underlying24 rfl rfl rfl inf22 (by decide) rfl) ?_
    refine AL.rd rfl rfl (rd_load_ref Try.underlying22 rfl rfl rfl rfl rfl rfl) ?_
    refine AL.rp rfl rfl (rp_len_map Try.underlying22 rfl rfl (by assumption)) ?_
    refine AL.sm rfl (sm_make_map 59 V.i (0) Try.underlying29 inf3 rfl rfl rfl rfl rfl (by omega) (by decide) (by simp [S.clean, S.put, S.newObj, S.forget, V.has, V.hasL, junkIf, setL, V.cs, hasL_i, hasL_b, hasL_s, hasL_n, hasL_rep, hasL_flat, hasL_append, -List.map_set]) rfl) ?_
    refine AL.rp rfl rfl (rp_assign rfl rfl) ?_
    refine AL.nil ?_
    try simp only [thenS, S.put, S.newObj, setL, V.cs, List.length_cons, List.length_nil, List.take_succ_cons, List.take_zero, List.drop_succ_cons, List.drop_zero, List.drop_nil, List.nil_append, List.cons_append, List.append_nil, Nat.zero_add, Nat.reduceAdd, List.map_cons, List.map_nil, List.set_cons_zero, List.set_cons_succ]
    refine AW.seq ?_
    refine AW.block ?_
    refine AW.loopN (fun μ s' => ∃ (out : List Nat) (ol : Nat) (Q : List Wy) (f : Bool) (SN : List Nat) (lam : Nat), μ ≤ 500000 ∧ (P - exps N SN) * 402 + Q.length ≤ μ ∧ out.length = ol ∧ ol ≤ N ∧ (∀ y ∈ out, y ≤ 1000000000) ∧ SN.length = n ∧ (∀ y ∈ SN, y + μ ≤ 600000) ∧ (f = true → Q = []) ∧ Hp HB.key Q ∧ Kb N sts I G E E0 out Q (snF SN) lam (exps N SN) ∧ s' = ⟨154, [(1, .i N), (2, .ref 2 0), (7, .d (intsN T)), (9, .own 100 1 ol (decide (ol = 0))), (10, .ref 900 0), (11, .own 59 1 n false)], hpBl Q f [(2, ⟨24, [.i st, .d (stsD sts)], false, 0⟩), (59, ⟨3, SN.map V.n, false, 1⟩), (100, ⟨3, out.map V.n, decide (ol = 0), 1⟩)], []⟩) ⟨500000, _, ?_, [], 0, Q, f, List.replicate n 0, 0, Nat.le_refl _, by rw [exps_zero]; omega, rfl, Nat.zero_le _, by simp, by simp, fun y hy => by rw [(List.mem_replicate.1 hy).2]; omega, hf, hhp, by rw [snF_zero, exps_zero]; exact hKb, rfl⟩ ?_
    ·have hz0 : (List.replicate n (0 : Int)).map V.i = (List.replicate n 0).map V.n := by simp
     rw [← hz0]
     exact (Less.of rfl (by repeat (first | exact trivial | refine ⟨⟨_, rfl, Wk.refl _⟩, ?_⟩ | refine ⟨⟨_, rfl, Wk.nil _ _⟩, ?_⟩ | refine ⟨⟨_, rfl, Wk.junk _⟩, ?_⟩)) (by repeat (first | exact trivial | refine ⟨rfl, ?_⟩)) rfl)
    clear hf hhp hKb hQ1 Q f
    rintro μ s' ⟨out, ol, Q, f, SN, lam, hμ, hm, hol, holN, ho9, hSl, hSb, hf, hhp, hKb, rfl⟩
    have hXP := hexP SN hSl
    by_cases hQ0 : Q.length = 0
    ·obtain rfl : Q = [] := List.length_eq_zero_iff.1 hQ0
     obtain ⟨rfl, rfl⟩ := hfin out hKb.srt ho9 (hKb.done hEd (by omega) (.inl rfl))
     have htest : ¬ ((([] : List Wy).length : Nat) : Int) > 0 := by simp
     refine AW.seq ?_
     refine AW.seq ?_
     refine AW.region ?_
     refine AL.rd rfl rfl (rd_load_ref Try.underlying110 rfl rfl rfl rfl rfl rfl) ?_
     refine AL.rp rfl rfl (rp_len_own Try.underlying110 rfl rfl) ?_
     (refine AL.rp rfl rfl (rp_gtrF rfl rfl rfl (by first | assumption | omega | (dsimp only; omega))) ?_)
     refine AL.rp rfl rfl (rp_move rfl rfl) ?_
     refine AL.noV rfl rfl rfl rfl ?_
     refine AL.noV rfl rfl rfl rfl ?_
     refine AL.noV rfl rfl rfl rfl ?_
     refine AL.noV rfl rfl rfl rfl ?_
     refine AL.rp rfl rfl (rp_pick rfl rfl rfl) ?_
     refine AL.nil ?_
     try simp only [thenS, S.put]
     refine AW.condF rfl ?_
     refine AW.exit ?_
     try simp only [thenS, inBlockS, ↓reduceIte, Nat.reduceEqDiff]
     refine AW.seq ?_
     refine AW.freeze 9 8 (A.map encN) rfl rfl rfl (by rw [List.length_map]; exact hol) (by omega) (rows1 rfl) ?_
     refine AW.region ?_
     refine AL.rp rfl rfl (rp_move rfl rfl) ?_
     refine AL.rp rfl rfl (rp_assign rfl rfl) ?_
     refine AL.rp rfl rfl (rp_assign rfl rfl) ?_
     refine AL.nil ?_
     try simp only [thenS, S.put]
     refine AW.ret ?_
     exact ⟨[_, _], ⟨rfl, rfl, trivial⟩, .inl rfl, by simp [tupOf, V.pure, V.has, V.hasL]⟩
    ·have htest : ((Q.length : Nat) : Int) > 0 := by omega
     by_cases holt : ol < N
     ·obtain rfl : f = false := by
       cases f with
       | false => rfl
       | true => rw [hf rfl] at hQ0; simp at hQ0
      obtain ⟨x, hx⟩ : ∃ x, Q[0]? = some x := ⟨_, List.getElem?_eq_getElem (by omega)⟩
      have hleast := hhp.least hx
      have hxi := hKb.it x (List.mem_of_getElem? hx)
      have hxb := hKb.bnd x (List.mem_of_getElem? hx)
      have hmin : ∀ {Q1 : List Wy}, Q.Perm (x :: Q1) → ∀ e ∈ Q1, x.l ≤ e.l := fun {Q1} hp e he => by
       obtain ⟨i, hi⟩ := List.getElem?_of_mem (hp.mem_iff.2 (List.mem_cons_of_mem _ he))
       have := hleast i e hi
       simp only [HB] at this
       omega
      have hlenP : ∀ {Q1 : List Wy}, Q.Perm (x :: Q1) → Q.length = Q1.length + 1 := fun hp => by have := hp.length_eq; simpa using this
      have hl : Lw [(2, (⟨24, [.i st, .d (stsD sts)], false, 0⟩ : Row)), (59, ⟨3, SN.map V.n, false, 1⟩), (100, ⟨3, out.map V.n, decide (ol = 0), 1⟩)] [] := ⟨by simp [V.lowL, V.low, lowL_nB], rfl⟩
      have hQb : Q.length ≤ 100000000 := by omega
      have hcl : (out.map V.n).length = ol * 1 := by simp [hol]
      have hxc : x.c ≤ 1200000000000 := Nat.le_trans hxb (by omega)
      rcases hxi with ⟨hxa, hxl⟩ | ⟨q, hxa, hqn, hdq, hxl⟩
      ·have hxneg : x.a < 0 := by omega
       by_cases hov : 1000000000 < x.c
       ·have hover := fun {Q1} (h : Q.Perm (x :: Q1)) => hr2 ((hKb.perm h).over hEd hxa (hmin h) (by omega) ho9 hov (by omega) hL0)
        refine AW.seq ?_
        refine AW.seq ?_
        refine AW.region ?_
        refine AL.rd rfl rfl (rd_load_ref Try.underlying110 rfl rfl rfl rfl rfl rfl) ?_
        refine AL.rp rfl rfl (rp_len_own Try.underlying110 rfl rfl) ?_
        (refine AL.rp rfl rfl (rp_gtrT rfl rfl rfl (by first | assumption | omega | (dsimp only; omega))) ?_)
        refine AL.rp rfl rfl (rp_move rfl rfl) ?_
        refine AL.rpy rfl rfl rfl (rp_move rfl rfl) ?_
        refine AL.rpy rfl rfl rfl (rp_len_own Try.underlying29 rfl rfl) ?_
        refine AL.rpy rfl rfl rfl (rp_move rfl rfl) ?_
        (refine AL.rpy rfl rfl rfl (rp_lssT rfl rfl rfl (by first | assumption | omega | (dsimp only; omega))) ?_)
        refine AL.rp rfl rfl (rp_pick rfl rfl rfl) ?_
        refine AL.nil ?_
        try simp only [thenS, S.put]
        refine AW.condT rfl ?_
        refine AW.skip ?_
        try simp only [thenS]
        refine AW.block ?_
        refine AW.seq ?_
        refine AW.region ?_
        refine AL.rp rfl rfl (rp_mkIfc rfl rfl (fun _ _ => by kernel_rfl)) ?_
        try simp only [S.put, S.newObj, setL, V.cs, List.length_cons, List.length_nil, List.take_succ_cons, List.take_zero, List.drop_succ_cons, List.drop_zero, List.drop_nil, List.nil_append, List.cons_append, List.append_nil, Nat.zero_add, Nat.reduceAdd]
        refine AL.pc [1, 2, 7, 9, 10, 11] (ts := [_, _, _, _, _, _]) (args := [_]) (post := ?pc13) ?hc13 rfl rfl rfl rfl rfl rfl rfl rfl rfl ?_
        case hc13 => (refine am_popB (hl.keepL _ ?_) Q x hQb hhp hx <;> first | rfl | (simp [V.lowL, V.low]; done))
        rintro _ _ _ ⟨rfl, Q1, k1, k2, rfl, rfl⟩
        simp only [back, S.put, List.cons_append, List.nil_append, List.zip_cons_cons, List.zip_nil_left, List.drop_succ_cons, List.drop_zero, List.length_cons, List.length_nil, Nat.zero_add, Nat.reduceAdd]
        refine AL.rp rfl rfl (rp_assertA [_, _, _] rfl Try.underlying112 (by intro m h; cases h) rfl) ?_
        refine AL.sm rfl (sm_alloc (l := [.d (.p (.int .i64 0)), .d (.p (.int .i64 0)), .d (.p (.int .i64 0))]) 12 inf112 rfl (by simp [S.clean, S.put, S.newObj, S.forget, V.has, V.hasL, junkIf, setL, V.cs, hasL_i, hasL_b, hasL_s, hasL_n, hasL_rep, hasL_flat, hasL_append, -List.map_set]) rfl rfl) ?_
        refine AL.st rfl (st_store_any inf112 rfl rfl rfl rfl rfl rfl rfl rfl (by first | decide | (simp; done) | (simp; omega)) rfl) ?_
        refine AL.nil ?_
        try simp only [thenS, S.put, S.newObj, setL, V.cs, List.length_cons, List.length_nil, List.take_succ_cons, List.take_zero, List.drop_succ_cons, List.drop_zero, List.drop_nil, List.nil_append, List.cons_append, List.append_nil, Nat.zero_add, Nat.reduceAdd, List.map_cons, List.map_nil, List.set_cons_zero, List.set_cons_succ]
        refine AW.seq ?_
        refine AW.seq ?_
        refine AW.region ?_
        refine AL.rp rfl rfl (rp_field_ref Try.underlying112 rfl rfl rfl inf3 (by decide) rfl) ?_
        refine AL.rd rfl rfl (rd_load_ref Try.underlying3 rfl rfl rfl rfl rfl rfl) ?_
        (refine AL.rp rfl rfl (rp_lssT rfl rfl rfl (by first | assumption | omega | (dsimp only; omega))) ?_)
        refine AL.nil ?_
        try simp only [thenS, S.put]
        refine AW.condT rfl ?_
        refine AW.seq ?_
        refine AW.seq ?_
        refine AW.region ?_
        refine AL.rp rfl rfl (rp_field_ref Try.underlying112 rfl rfl rfl inf3 (by decide) rfl) ?_
        refine AL.rd rfl rfl (rd_load_ref Try.underlying3 rfl rfl rfl rfl rfl rfl) ?_
        (refine AL.rp rfl rfl (rp_gtrT rfl rfl rfl (by first | assumption | omega | (dsimp only; omega))) ?_)
        refine AL.nil ?_
        try simp only [thenS, S.put]
        refine AW.condT rfl ?_
        refine AW.seq ?_
        refine AW.region ?_
        refine AL.rp rfl rfl (rp_assign rfl rfl) ?_
        refine AL.rp rfl rfl (rp_assign rfl rfl) ?_
        refine AL.nil ?_
        try simp only [thenS, S.put]
        refine AW.ret ?_
        obtain ⟨rfl, rfl⟩ := hover k2
        exact ⟨[_, _], ⟨rfl, rfl, trivial⟩, .inr ⟨rfl, rfl⟩, by simp [tupOf, V.pure, V.has, V.hasL]⟩
       ·have hended := fun {Q1} (h : Q.Perm (x :: Q1)) => (hKb.perm h).ended hxa (hmin h)
        refine AW.seq ?_
        refine AW.seq ?_
        refine AW.region ?_
        refine AL.rd rfl rfl (rd_load_ref Try.underlying110 rfl rfl rfl rfl rfl rfl) ?_
        refine AL.rp rfl rfl (rp_len_own Try.underlying110 rfl rfl) ?_
        (refine AL.rp rfl rfl (rp_gtrT rfl rfl rfl (by first | assumption | omega | (dsimp only; omega))) ?_)
        refine AL.rp rfl rfl (rp_move rfl rfl) ?_
        refine AL.rpy rfl rfl rfl (rp_move rfl rfl) ?_
        refine AL.rpy rfl rfl rfl (rp_len_own Try.underlying29 rfl rfl) ?_
        refine AL.rpy rfl rfl rfl (rp_move rfl rfl) ?_
        (refine AL.rpy rfl rfl rfl (rp_lssT rfl rfl rfl (by first | assumption | omega | (dsimp only; omega))) ?_)
        refine AL.rp rfl rfl (rp_pick rfl rfl rfl) ?_
        refine AL.nil ?_
        try simp only [thenS, S.put]
        refine AW.condT rfl ?_
        refine AW.skip ?_
        try simp only [thenS]
        refine AW.block ?_
        refine AW.seq ?_
        refine AW.region ?_
        refine AL.rp rfl rfl (rp_mkIfc rfl rfl (fun _ _ => by kernel_rfl)) ?_
        try simp only [S.put, S.newObj, setL, V.cs, List.length_cons, List.length_nil, List.take_succ_cons, List.take_zero, List.drop_succ_cons, List.drop_zero, List.drop_nil, List.nil_append, List.cons_append, List.append_nil, Nat.zero_add, Nat.reduceAdd]
        refine AL.pc [1, 2, 7, 9, 10, 11] (ts := [_, _, _, _, _, _]) (args := [_]) (post := ?pc14) ?hc14 rfl rfl rfl rfl rfl rfl rfl rfl rfl ?_
        case hc14 => (refine am_popB (hl.keepL _ ?_) Q x hQb hhp hx <;> first | rfl | (simp [V.lowL, V.low]; done))
        rintro _ _ _ ⟨rfl, Q1, k1, k2, rfl, rfl⟩
        simp only [back, S.put, List.cons_append, List.nil_append, List.zip_cons_cons, List.zip_nil_left, List.drop_succ_cons, List.drop_zero, List.length_cons, List.length_nil, Nat.zero_add, Nat.reduceAdd]
        refine AL.rp rfl rfl (rp_assertA [_, _, _] rfl Try.underlying112 (by intro m h; cases h) rfl) ?_
        refine AL.sm rfl (sm_alloc (l := [.d (.p (.int .i64 0)), .d (.p (.int .i64 0)), .d (.p (.int .i64 0))]) 12 inf112 rfl (by simp [S.clean, S.put, S.newObj, S.forget, V.has, V.hasL, junkIf, setL, V.cs, hasL_i, hasL_b, hasL_s, hasL_n, hasL_rep, hasL_flat, hasL_append, -List.map_set]) rfl rfl) ?_
        refine AL.st rfl (st_store_any inf112 rfl rfl rfl rfl rfl rfl rfl rfl (by first | decide | (simp; done) | (simp; omega)) rfl) ?_
        refine AL.nil ?_
        try simp only [thenS, S.put, S.newObj, setL, V.cs, List.length_cons, List.length_nil, List.take_succ_cons, List.take_zero, List.drop_succ_cons, List.drop_zero, List.drop_nil, List.nil_append, List.cons_append, List.append_nil, Nat.zero_add, Nat.reduceAdd, List.map_cons, List.map_nil, List.set_cons_zero, List.set_cons_succ]
        refine AW.seq ?_
        refine AW.seq ?_
        refine AW.region ?_
        refine AL.rp rfl rfl (rp_field_ref Try.underlying112 rfl rfl rfl inf3 (by decide) rfl) ?_
        refine AL.rd rfl rfl (rd_load_ref Try.underlying3 rfl rfl rfl rfl rfl rfl) ?_
        (refine AL.rp rfl rfl (rp_lssT rfl rfl rfl (by first | assumption | omega | (dsimp only; omega))) ?_)
        refine AL.nil ?_
        try simp only [thenS, S.put]
        refine AW.condT rfl ?_
        refine AW.seq ?_
        refine AW.seq ?_
        refine AW.region ?_
        refine AL.rp rfl rfl (rp_field_ref Try.underlying112 rfl rfl rfl inf3 (by decide) rfl) ?_
        refine AL.rd rfl rfl (rd_load_ref Try.underlying3 rfl rfl rfl rfl rfl rfl) ?_
        (refine AL.rp rfl rfl (rp_gtrF rfl rfl rfl (by first | assumption | omega | (dsimp only; omega))) ?_)
        refine AL.nil ?_
        try simp only [thenS, S.put]
        refine AW.condF rfl ?_
        refine AW.skip ?_
        try simp only [thenS]
        refine AW.seq ?_
        refine AW.region ?_
        refine AL.rp rfl rfl (rp_move rfl rfl) ?_
        refine AL.rp rfl rfl (rp_field_ref Try.underlying112 rfl rfl rfl inf3 (by decide) rfl) ?_
        refine AL.rd rfl rfl (rd_load_ref Try.underlying3 rfl rfl rfl rfl rfl rfl) ?_
        refine AL.sm rfl (sm_slice (vs := [(0, _)]) (zs := [.d (.p (.int .i64 0))]) 81 Try.underlying29 inf3 rfl rfl (by decide) (by decide) (by decide) rfl rfl rfl rfl (by simp [S.clean, S.put, S.newObj, S.forget, V.has, V.hasL, junkIf, setL, V.cs, hasL_i, hasL_b, hasL_s, hasL_n, hasL_rep, hasL_flat, hasL_append, -List.map_set]) rfl rfl) ?_
        refine AL.st rfl (st_appendF Try.underlying29 inf3 rfl (by decide) rfl rfl rfl rfl rfl rfl (by first | assumption | rfl | (simp; done)) (by simp [S.clean, S.put, S.newObj, S.forget, V.has, V.hasL, junkIf, setL, V.cs, hasL_i, hasL_b, hasL_s, hasL_n, hasL_rep, hasL_flat, hasL_append, -List.map_set]) rfl rfl rfl rfl rfl rfl rfl (by decide) (by omega) (by omega) rfl) ?_
        simp only [S.forget, S.put, S.newObj, junkIf, V.has, V.hasL, hasL_i, hasL_b, hasL_s, hasL_d, hasL_n, hasL_rep, hasL_flat, hasL_append, hasL_wy,  List.map_cons, List.map_nil, List.filter_cons, List.filter_nil, Nat.reduceBNe, Nat.reduceBEq, eq_self, bne_self_eq_false,  Bool.not_true, Bool.not_false, Bool.or_false, Bool.or_true, Bool.false_or, Bool.true_or, if_true, if_false, Bool.false_eq_true, ite_true, ite_false, ↓reduceIte, beq_self_eq_true, Nat.reduceEqDiff]
        refine AL.rp rfl rfl (rp_assign rfl rfl) ?_
        refine AL.nil ?_
        try simp only [thenS, S.put, S.newObj, setL, V.cs, List.length_cons, List.length_nil, List.take_succ_cons, List.take_zero, List.drop_succ_cons, List.drop_zero, List.drop_nil, List.nil_append, List.cons_append, List.append_nil, Nat.zero_add, Nat.reduceAdd, List.map_cons, List.map_nil, List.set_cons_zero, List.set_cons_succ]
        refine AW.exit ?_
        try simp only [thenS, inBlockS, ↓reduceIte, Nat.reduceEqDiff]
        have hq1 := hlenP k2
        refine ⟨μ - 1, _, ?_, ⟨out ++ [x.c], ol + 1, Q1, false, SN, x.l, by omega, by omega, by simp [hol], by omega, fun y hy => ?_, hSl, fun y hy => by have := hSb y hy; omega, (fun h => by cases h), k1, hended k2, rfl⟩, by omega⟩
        ·simp only [List.map_append, List.map_cons, List.map_nil]
         exact (Less.of rfl (by repeat (first | exact trivial | refine ⟨⟨_, rfl, Wk.refl _⟩, ?_⟩ | refine ⟨⟨_, rfl, Wk.nil _ _⟩, ?_⟩ | refine ⟨⟨_, rfl, Wk.junk _⟩, ?_⟩)) (by repeat (first | exact trivial | refine ⟨rfl, ?_⟩)) rfl)
        ·rcases List.mem_append.1 hy with hy | hy
         ·exact ho9 y hy
         ·simp only [List.mem_singleton] at hy; omega
      ·have hxpos : ¬ x.a < 0 := by omega
       rw [hn] at hqn
       obtain ⟨y, hy⟩ := get_lt hSl hqn
       have hyb := hSb y (List.mem_of_getElem? hy)
       have hqS : q < SN.length := by omega
       have hget2 : (SN.set q (y + 1))[q]? = some (y + 1) := List.getElem?_set_self hqS
       have hset := snF_set hy
       have hexs := exps_set (N := N) (q := q) hy
       have hsy := snF_get hy
       have hSl2 : (SN.set q (y + 1)).length = n := by rw [List.length_set]; exact hSl
       have hXP2 := hexP _ hSl2
       have hSb2 : ∀ z ∈ SN.set q (y + 1), z + (μ - 1) ≤ 600000 := fun z hz => by
        rcases List.mem_or_eq_of_mem_set hz with hz | rfl
        ·have := hSb z hz; omega
        ·omega
       by_cases hyN : N ≤ y
       ·have hexs : exps N (SN.set q (y + 1)) = exps N SN := by rw [hexs, if_neg (by omega)]; rfl
        have hprune := fun {Q1} (h : Q.Perm (x :: Q1)) => (hKb.perm h).prune hEd hxa (hmin h) (by rw [hsy]; exact hyN)
        rw [← hset, ← hexs] at hprune
        refine AW.seq ?_
        refine AW.seq ?_
        refine AW.region ?_
        refine AL.rd rfl rfl (rd_load_ref Try.underlying110 rfl rfl rfl rfl rfl rfl) ?_
        refine AL.rp rfl rfl (rp_len_own Try.underlying110 rfl rfl) ?_
        (refine AL.rp rfl rfl (rp_gtrT rfl rfl rfl (by first | assumption | omega | (dsimp only; omega))) ?_)
        refine AL.rp rfl rfl (rp_move rfl rfl) ?_
        refine AL.rpy rfl rfl rfl (rp_move rfl rfl) ?_
        refine AL.rpy rfl rfl rfl (rp_len_own Try.underlying29 rfl rfl) ?_
        refine AL.rpy rfl rfl rfl (rp_move rfl rfl) ?_
        (refine AL.rpy rfl rfl rfl (rp_lssT rfl rfl rfl (by first | assumption | omega | (dsimp only; omega))) ?_)
        refine AL.rp rfl rfl (rp_pick rfl rfl rfl) ?_
        refine AL.nil ?_
        try simp only [thenS, S.put]
        refine AW.condT rfl ?_
        refine AW.skip ?_
        try simp only [thenS]
        refine AW.block ?_
        refine AW.seq ?_
        refine AW.region ?_
        refine AL.rp rfl rfl (rp_mkIfc rfl rfl (fun _ _ => by kernel_rfl)) ?_
        try simp only [S.put, S.newObj, setL, V.cs, List.length_cons, List.length_nil, List.take_succ_cons, List.take_zero, List.drop_succ_cons, List.drop_zero, List.drop_nil, List.nil_append, List.cons_append, List.append_nil, Nat.zero_add, Nat.reduceAdd]
        refine AL.pc [1, 2, 7, 9, 10, 11] (ts := [_, _, _, _, _, _]) (args := [_]) (post := ?pc15) ?hc15 rfl rfl rfl rfl rfl rfl rfl rfl rfl ?_
        case hc15 => (refine am_popB (hl.keepL _ ?_) Q x hQb hhp hx <;> first | rfl | (simp [V.lowL, V.low]; done))
        rintro _ _ _ ⟨rfl, Q1, k1, k2, rfl, rfl⟩
        simp only [back, S.put, List.cons_append, List.nil_append, List.zip_cons_cons, List.zip_nil_left, List.drop_succ_cons, List.drop_zero, List.length_cons, List.length_nil, Nat.zero_add, Nat.reduceAdd]
        refine AL.rp rfl rfl (rp_assertA [_, _, _] rfl Try.underlying112 (by intro m h; cases h) rfl) ?_
        refine AL.sm rfl (sm_alloc (l := [.d (.p (.int .i64 0)), .d (.p (.int .i64 0)), .d (.p (.int .i64 0))]) 12 inf112 rfl (by simp [S.clean, S.put, S.newObj, S.forget, V.has, V.hasL, junkIf, setL, V.cs, hasL_i, hasL_b, hasL_s, hasL_n, hasL_rep, hasL_flat, hasL_append, -List.map_set]) rfl rfl) ?_
        refine AL.st rfl (st_store_any inf112 rfl rfl rfl rfl rfl rfl rfl rfl (by first | decide | (simp; done) | (simp; omega)) rfl) ?_
        refine AL.nil ?_
        try simp only [thenS, S.put, S.newObj, setL, V.cs, List.length_cons, List.length_nil, List.take_succ_cons, List.take_zero, List.drop_succ_cons, List.drop_zero, List.drop_nil, List.nil_append, List.cons_append, List.append_nil, Nat.zero_add, Nat.reduceAdd, List.map_cons, List.map_nil, List.set_cons_zero, List.set_cons_succ]
        refine AW.seq ?_
        refine AW.seq ?_
        refine AW.region ?_
        refine AL.rp rfl rfl (rp_field_ref Try.underlying112 rfl rfl rfl inf3 (by decide) rfl) ?_
        refine AL.rd rfl rfl (rd_load_ref Try.underlying3 rfl rfl rfl rfl rfl rfl) ?_
        (refine AL.rp rfl rfl (rp_lssF rfl rfl rfl (by first | assumption | omega | (dsimp only; omega))) ?_)
        refine AL.nil ?_
        try simp only [thenS, S.put]
        refine AW.condF rfl ?_
        refine AW.skip ?_
        try simp only [thenS]
        refine AW.seq ?_
        refine AW.seq ?_
        refine AW.region ?_
        refine AL.rp rfl rfl (rp_move rfl rfl) ?_
        refine AL.rp rfl rfl (rp_field_ref Try.underlying112 rfl rfl rfl inf3 (by decide) rfl) ?_
        refine AL.rd rfl rfl (rd_load_ref Try.underlying3 rfl rfl rfl rfl rfl rfl) ?_
        refine AL.rp rfl rfl (rp_index_own Try.underlying29 inf3 rfl rfl rfl (by omega) (by omega)) ?_
        refine AL.rd rfl rfl (rd_load_map Try.underlying3 rfl rfl rfl rfl rfl rfl (by assumption)) ?_
        refine AL.rp rfl rfl (rp_add rfl rfl rfl (by first | omega | (dsimp only; omega))) ?_
        refine AL.rp rfl rfl (rp_index_own Try.underlying29 inf3 rfl rfl rfl (by omega) (by omega)) ?_
        refine AL.st rfl (st_store_map2 (v := y + 1) inf3 rfl rfl rfl rfl rfl rfl rfl rfl (by first | assumption | omega)) ?_
        refine AL.nil ?_
        try simp only [thenS, S.put, S.newObj, setL, V.cs, List.length_cons, List.length_nil, List.take_succ_cons, List.take_zero, List.drop_succ_cons, List.drop_zero, List.drop_nil, List.nil_append, List.cons_append, List.append_nil, Nat.zero_add, Nat.reduceAdd, List.map_cons, List.map_nil, List.set_cons_zero, List.set_cons_succ]
        refine AW.seq ?_
        refine AW.region ?_
        refine AL.rp rfl rfl (rp_move rfl rfl) ?_
        refine AL.rp rfl rfl (rp_field_ref Try.underlying112 rfl rfl rfl inf3 (by decide) rfl) ?_
        refine AL.rd rfl rfl (rd_load_ref Try.underlying3 rfl rfl rfl rfl rfl rfl) ?_
        refine AL.rp rfl rfl (rp_index_own Try.underlying29 inf3 rfl rfl rfl (by omega) (by omega)) ?_
        refine AL.rd rfl rfl (rd_load_map Try.underlying3 rfl rfl rfl rfl rfl rfl (by assumption)) ?_
        refine AL.rp rfl rfl (rp_move rfl rfl) ?_
        (refine AL.rp rfl rfl (rp_gtrT rfl rfl rfl (by first | assumption | omega | (dsimp only; omega))) ?_)
        refine AL.nil ?_
        try simp only [thenS, S.put]
        refine AW.condT rfl ?_
        refine AW.exit ?_
        try simp only [thenS, inBlockS, ↓reduceIte, Nat.reduceEqDiff]
        have hq1 := hlenP k2
        refine ⟨μ - 1, _, ?_, ⟨out, ol, Q1, false, SN.set q (y + 1), x.l, by omega, by rw [hexs]; omega, hol, holN, ho9, hSl2, hSb2, (fun h => by cases h), k1, hprune k2, rfl⟩, by omega⟩
        exact (Less.of rfl (by repeat (first | exact trivial | refine ⟨⟨_, rfl, Wk.refl _⟩, ?_⟩ | refine ⟨⟨_, rfl, Wk.nil _ _⟩, ?_⟩ | refine ⟨⟨_, rfl, Wk.junk _⟩, ?_⟩)) (by repeat (first | exact trivial | refine ⟨rfl, ?_⟩)) rfl)
       ·rw [if_pos (by omega)] at hexs
        obtain ⟨s, hs⟩ := get_lt hn hqn
        have hsf := hfz s (List.mem_of_getElem? hs)
        have hsa := hza s (List.mem_of_getElem? hs)
        have hla4 := hal4 s (List.mem_of_getElem? hs)
        have hexpand := fun {Q1} (h : Q.Perm (x :: Q1)) => (hKb.perm h).expand hEd hKG hxa hs (hmin h) (by rw [hsy]; omega)
        rw [← hset, ← hexs] at hexpand
        obtain ⟨SN2, hSN2⟩ : ∃ S, SN.set q (y + 1) = S := ⟨_, rfl⟩
        rw [hSN2] at hexpand hexs hSl2 hXP2 hSb2
        obtain ⟨sf, sa⟩ := s
        simp only at hsf hsa hla4 hexpand
        obtain ⟨f, rfl⟩ : ∃ f : Nat, sf = f := ⟨sf.toNat, by omega⟩
        obtain ⟨la, hla⟩ : ∃ n, sa.length = n := ⟨_, rfl⟩
        rw [hla] at hla4
        have hl2 : Lw [(2, (⟨24, [.i st, .d (stsD sts)], false, 0⟩ : Row)), (12, ⟨112, wyV x, false, 0⟩), (13, ⟨69, [.i f, .d (arsD sa)], false, 0⟩), (59, ⟨3, SN2.map V.n, false, 1⟩), (100, ⟨3, out.map V.n, decide (ol = 0), 1⟩)] [] := ⟨by simp [V.lowL, V.low, lowL_nB], rfl⟩
        refine AW.seq ?_
        refine AW.seq ?_
        refine AW.region ?_
        refine AL.rd rfl rfl (rd_load_ref Try.underlying110 rfl rfl rfl rfl rfl rfl) ?_
        refine AL.rp rfl rfl (rp_len_own Try.underlying110 rfl rfl) ?_
        (refine AL.rp rfl rfl (rp_gtrT rfl rfl rfl (by first | assumption | omega | (dsimp only; omega))) ?_)
        refine AL.rp rfl rfl (rp_move rfl rfl) ?_
        refine AL.rpy rfl rfl rfl (rp_move rfl rfl) ?_
        refine AL.rpy rfl rfl rfl (rp_len_own Try.underlying29 rfl rfl) ?_
        refine AL.rpy rfl rfl rfl (rp_move rfl rfl) ?_
        (refine AL.rpy rfl rfl rfl (rp_lssT rfl rfl rfl (by first | assumption | omega | (dsimp only; omega))) ?_)
        refine AL.rp rfl rfl (rp_pick rfl rfl rfl) ?_
        refine AL.nil ?_
        try simp only [thenS, S.put]
        refine AW.condT rfl ?_
        refine AW.skip ?_
        try simp only [thenS]
        refine AW.block ?_
        refine AW.seq ?_
        refine AW.region ?_
        refine AL.rp rfl rfl (rp_mkIfc rfl rfl (fun _ _ => by kernel_rfl)) ?_
        try simp only [S.put, S.newObj, setL, V.cs, List.length_cons, List.length_nil, List.take_succ_cons, List.take_zero, List.drop_succ_cons, List.drop_zero, List.drop_nil, List.nil_append, List.cons_append, List.append_nil, Nat.zero_add, Nat.reduceAdd]
        refine AL.pc [1, 2, 7, 9, 10, 11] (ts := [_, _, _, _, _, _]) (args := [_]) (post := ?pc16) ?hc16 rfl rfl rfl rfl rfl rfl rfl rfl rfl ?_
        case hc16 => (refine am_popB (hl.keepL _ ?_) Q x hQb hhp hx <;> first | rfl | (simp [V.lowL, V.low]; done))
        rintro _ _ _ ⟨rfl, Q1, k1, k2, rfl, rfl⟩
        simp only [back, S.put, List.cons_append, List.nil_append, List.zip_cons_cons, List.zip_nil_left, List.drop_succ_cons, List.drop_zero, List.length_cons, List.length_nil, Nat.zero_add, Nat.reduceAdd]
        refine AL.rp rfl rfl (rp_assertA [_, _, _] rfl Try.underlying112 (by intro m h; cases h) rfl) ?_
        refine AL.sm rfl (sm_alloc (l := [.d (.p (.int .i64 0)), .d (.p (.int .i64 0)), .d (.p (.int .i64 0))]) 12 inf112 rfl (by simp [S.clean, S.put, S.newObj, S.forget, V.has, V.hasL, junkIf, setL, V.cs, hasL_i, hasL_b, hasL_s, hasL_n, hasL_rep, hasL_flat, hasL_append, -List.map_set]) rfl rfl) ?_
        refine AL.st rfl (st_store_any inf112 rfl rfl rfl rfl rfl rfl rfl rfl (by first | decide | (simp; done) | (simp; omega)) rfl) ?_
        refine AL.nil ?_
        try simp only [thenS, S.put, S.newObj, setL, V.cs, List.length_cons, List.length_nil, List.take_succ_cons, List.take_zero, List.drop_succ_cons, List.drop_zero, List.drop_nil, List.nil_append, List.cons_append, List.append_nil, Nat.zero_add, Nat.reduceAdd, List.map_cons, List.map_nil, List.set_cons_zero, List.set_cons_succ]
        refine AW.seq ?_
        refine AW.seq ?_
        refine AW.region ?_
        refine AL.rp rfl rfl (rp_field_ref Try.underlying112 rfl rfl rfl inf3 (by decide) rfl) ?_
        refine AL.rd rfl rfl (rd_load_ref Try.underlying3 rfl rfl rfl rfl rfl rfl) ?_
        (refine AL.rp rfl rfl (rp_lssF rfl rfl rfl (by first | assumption | omega | (dsimp only; omega))) ?_)
        refine AL.nil ?_
        try simp only [thenS, S.put]
        refine AW.condF rfl ?_
        refine AW.skip ?_
        try simp only [thenS]
        refine AW.seq ?_
        refine AW.seq ?_
        refine AW.region ?_
        refine AL.rp rfl rfl (rp_move rfl rfl) ?_
        refine AL.rp rfl rfl (rp_field_ref Try.underlying112 rfl rfl rfl inf3 (by decide) rfl) ?_
        refine AL.rd rfl rfl (rd_load_ref Try.underlying3 rfl rfl rfl rfl rfl rfl) ?_
        refine AL.rp rfl rfl (rp_index_own Try.underlying29 inf3 rfl rfl rfl (by omega) (by omega)) ?_
        refine AL.rd rfl rfl (rd_load_map Try.underlying3 rfl rfl rfl rfl rfl rfl (by assumption)) ?_
        refine AL.rp rfl rfl (rp_add rfl rfl rfl (by first | omega | (dsimp only; omega))) ?_
        refine AL.rp rfl rfl (rp_index_own Try.underlying29 inf3 rfl rfl rfl (by omega) (by omega)) ?_
        refine AL.st rfl (st_store_map2 (v := y + 1) inf3 rfl rfl rfl rfl rfl rfl rfl rfl (by first | assumption | omega)) ?_
        refine AL.nil ?_
        try simp only [thenS, S.put, S.newObj, setL, V.cs, List.length_cons, List.length_nil, List.take_succ_cons, List.take_zero, List.drop_succ_cons, List.drop_zero, List.drop_nil, List.nil_append, List.cons_append, List.append_nil, Nat.zero_add, Nat.reduceAdd, List.map_cons, List.map_nil, List.set_cons_zero, List.set_cons_succ]
        refine AW.seq ?_
        refine AW.region ?_
        refine AL.rp rfl rfl (rp_move rfl rfl) ?_
        refine AL.rp rfl rfl (rp_field_ref Try.underlying112 rfl rfl rfl inf3 (by decide) rfl) ?_
        refine AL.rd rfl rfl (rd_load_ref Try.underlying3 rfl rfl rfl rfl rfl rfl) ?_
        refine AL.rp rfl rfl (rp_index_own Try.underlying29 inf3 rfl rfl rfl (by omega) (by omega)) ?_
        refine AL.rd rfl rfl (rd_load_map Try.underlying3 rfl rfl rfl rfl rfl rfl (by assumption)) ?_
        refine AL.rp rfl rfl (rp_move rfl rfl) ?_
        (refine AL.rp rfl rfl (rp_gtrF rfl rfl rfl (by first | assumption | omega | (dsimp only; omega))) ?_)
        refine AL.nil ?_
        try simp only [thenS, S.put]
        refine AW.condF rfl ?_
        refine AW.skip ?_
        try simp only [thenS]
        refine AW.seq ?_
        refine AW.region ?_
        refine AL.rp rfl rfl (rp_field_ref Try.underlying24 rfl rfl rfl inf22 (by decide) rfl) ?_
        refine AL.rd rfl rfl (rd_load_ref Try.underlying22 rfl rfl rfl rfl rfl rfl) ?_
        refine AL.rp rfl rfl (rp_field_ref Try.underlying112 rfl rfl rfl inf3 (by decide) rfl) ?_
        refine AL.rd rfl rfl (rd_load_ref Try.underlying3 rfl rfl rfl rfl rfl rfl) ?_
        refine AL.rp rfl rfl (rp_index_map (k := q) Try.underlying22 inf69 rfl rfl rfl (by omega) (by assumption)) ?_
        refine AL.rd rfl rfl (rd_loads_ad Try.underlying69 rfl inf69 rfl rfl rfl rfl) ?_
        refine AL.sm rfl (sm_alloc (l := [.d (.p (.int .i64 0)), .d (.p (.slice none 0 0))]) 13 inf69 rfl (by simp [S.clean, S.put, S.newObj, S.forget, V.has, V.hasL, junkIf, setL, V.cs, hasL_i, hasL_b, hasL_s, hasL_n, hasL_rep, hasL_flat, hasL_append, -List.map_set]) rfl rfl) ?_
        refine AL.st rfl (st_store_any inf69 rfl rfl rfl rfl rfl rfl rfl rfl (by first | decide | (simp; done) | (simp; omega)) rfl) ?_
        refine AL.nil ?_
        try simp only [thenS, S.put, S.newObj, setL, V.cs, List.length_cons, List.length_nil, List.take_succ_cons, List.take_zero, List.drop_succ_cons, List.drop_zero, List.drop_nil, List.nil_append, List.cons_append, List.append_nil, Nat.zero_add, Nat.reduceAdd, List.map_cons, List.map_nil, List.set_cons_zero, List.set_cons_succ]
        rw [hSN2]
        have hq1 := hlenP k2
        have hKx := hexpand k2
        clear hexpand k2 hmin hlenP hleast hhp hKb hset hSN2
        refine AW.seqc (fun s' => ∃ Q2 : List Wy, Q2.length ≤ Q1.length + 1 ∧ Hp HB.key Q2 ∧ Kb N sts I G E E0 out (chA (dst I G) x.c sa ++ Q2) (snF SN2) x.l (exps N SN2) ∧ s' = ⟨154, [(1, .i N), (2, .ref 2 0), (7, .d (intsN T)), (9, .own 100 1 ol (decide (ol = 0))), (10, .ref 900 0), (11, .own 59 1 n false), (12, .ref 12 0), (13, .ref 13 0)], hpBl Q2 false [(2, ⟨24, [.i st, .d (stsD sts)], false, 0⟩), (12, ⟨112, wyV x, false, 0⟩), (13, ⟨69, [.i f, .d (arsD sa)], false, 0⟩), (59, ⟨3, SN2.map V.n, false, 1⟩), (100, ⟨3, out.map V.n, decide (ol = 0), 1⟩)], []⟩) ?_ ?_
        ·skip
         by_cases hfi : (f : Int) = 1000000001
         ·have hch : chF ⟨(f : Int), sa⟩ x.c = [] := by unfold chF; rw [if_pos hfi]
          rw [hch, List.nil_append] at hKx
          refine AW.seq ?_
          refine AW.region ?_
          refine AL.rp rfl rfl (rp_field_ref Try.underlying69 rfl rfl rfl inf3 (by decide) rfl) ?_
          refine AL.rd rfl rfl (rd_load_ref Try.underlying3 rfl rfl rfl rfl rfl rfl) ?_
          (refine AL.rp rfl rfl (rp_neqF rfl rfl rfl (by first | assumption | omega | (dsimp only; omega))) ?_)
          refine AL.nil ?_
          try simp only [thenS, S.put]
          refine AW.condF rfl ?_
          refine AW.skip ?_
          try simp only [thenS]
          refine ⟨_, ?_, Q1, by omega, k1, hKx, rfl⟩
          exact (Less.of rfl (by repeat (first | exact trivial | refine ⟨⟨_, rfl, Wk.refl _⟩, ?_⟩ | refine ⟨⟨_, rfl, Wk.nil _ _⟩, ?_⟩ | refine ⟨⟨_, rfl, Wk.junk _⟩, ?_⟩)) (by repeat (first | exact trivial | refine ⟨rfl, ?_⟩)) rfl)
         ·have hch : chF ⟨(f : Int), sa⟩ x.c = [⟨-1, x.c + f, x.c + f⟩] := by unfold chF; rw [if_neg hfi]; simp
          rw [hch, List.singleton_append] at hKx
          have hr2' : Q1.length < 100000000 := by omega
          refine AW.seq ?_
          refine AW.region ?_
          refine AL.rp rfl rfl (rp_field_ref Try.underlying69 rfl rfl rfl inf3 (by decide) rfl) ?_
          refine AL.rd rfl rfl (rd_load_ref Try.underlying3 rfl rfl rfl rfl rfl rfl) ?_
          (refine AL.rp rfl rfl (rp_neqT rfl rfl rfl (by first | assumption | omega | (dsimp only; omega))) ?_)
          refine AL.nil ?_
          try simp only [thenS, S.put]
          refine AW.condT rfl ?_
          refine AW.less (Less.hp (T := [(1, _), (2, _), (7, _), (9, _), (10, _), (11, _), (12, _), (13, _)]) (H0 := [(2, _), (12, _), (13, _), (59, _), (100, _)]) (by repeat (first | exact trivial | refine ⟨⟨_, rfl, Wk.refl _⟩, ?_⟩)) rfl rfl (LH.of (by repeat (first | exact trivial | refine ⟨rfl, ?_⟩)))) ?_
          refine AW.region ?_
          refine AL.rp rfl rfl (rp_mkIfc rfl rfl (fun _ _ => by kernel_rfl)) ?_
          refine AL.rp rfl rfl (rp_field_ref Try.underlying112 rfl rfl rfl inf3 (by decide) rfl) ?_
          refine AL.rd rfl rfl (rd_load_ref Try.underlying3 rfl rfl rfl rfl rfl rfl) ?_
          refine AL.rp rfl rfl (rp_field_ref Try.underlying69 rfl rfl rfl inf3 (by decide) rfl) ?_
          refine AL.rd rfl rfl (rd_load_ref Try.underlying3 rfl rfl rfl rfl rfl rfl) ?_
          refine AL.rp rfl rfl (rp_addZ (((x.c + f : Nat) : Int)) rfl rfl rfl (by omega) (by omega)) ?_
          refine AL.rp rfl rfl (rp_field_ref Try.underlying112 rfl rfl rfl inf3 (by decide) rfl) ?_
          refine AL.rd rfl rfl (rd_load_ref Try.underlying3 rfl rfl rfl rfl rfl rfl) ?_
          refine AL.rp rfl rfl (rp_field_ref Try.underlying69 rfl rfl rfl inf3 (by decide) rfl) ?_
          refine AL.rd rfl rfl (rd_load_ref Try.underlying3 rfl rfl rfl rfl rfl rfl) ?_
          refine AL.rp rfl rfl (rp_addZ (((x.c + f : Nat) : Int)) rfl rfl rfl (by omega) (by omega)) ?_
          refine AL.rp rfl rfl (rp_build (vs := [(0, _), (1, _), (2, _)]) (zs := [.d (.p (.int .i64 0)), .d (.p (.int .i64 0)), .d (.p (.int .i64 0))]) pl112 inf112 rfl rfl rfl rfl) ?_
          refine AL.rp rfl rfl (rp_mkA [_, _, _] rfl rfl rfl (fun _ _ => by kernel_rfl)) ?_
          try simp only [S.put, S.newObj, setL, V.cs, List.length_cons, List.length_nil, List.take_succ_cons, List.take_zero, List.drop_succ_cons, List.drop_zero, List.drop_nil, List.nil_append, List.cons_append, List.append_nil, Nat.zero_add, Nat.reduceAdd]
          refine AL.pc [1, 2, 7, 9, 10, 11, 12, 13] (ts := [_, _, _, _, _, _, _, _]) (args := [_, _]) (post := ?pc17) ?hc17 rfl rfl rfl rfl rfl rfl rfl rfl rfl ?_
          case hc17 => (refine am_pushB (hl2.keepL _ ?_) Q1 false ⟨-1, x.c + f, x.c + f⟩ hr2' k1 <;> first | rfl | (simp [V.lowL, V.low]; done))
          rintro _ _ _ ⟨Q2, k3, k4, rfl, rfl⟩
          simp only [back, S.put, List.cons_append, List.nil_append, List.zip_cons_cons, List.zip_nil_left, List.drop_succ_cons, List.drop_zero, List.length_cons, List.length_nil, Nat.zero_add, Nat.reduceAdd]
          refine AL.nil ?_
          try simp only [thenS, S.put]
          have hq2 := k4.length_eq
          simp only [List.length_cons] at hq2
          refine ⟨_, ?_, Q2, by omega, k3, hKx.perm (List.perm_middle.symm.trans (List.Perm.append_left _ k4.symm)), rfl⟩
          exact (Less.of rfl (by repeat (first | exact trivial | refine ⟨⟨_, rfl, Wk.refl _⟩, ?_⟩ | refine ⟨⟨_, rfl, Wk.nil _ _⟩, ?_⟩ | refine ⟨⟨_, rfl, Wk.junk _⟩, ?_⟩)) (by repeat (first | exact trivial | refine ⟨rfl, ?_⟩)) rfl)
        rintro s' ⟨Q2, hq2, hh2, hK2, rfl⟩
        clear hKx k1
        refine AW.seq ?_
        refine AW.region ?_
        refine AL.rp rfl rfl (rp_field_ref Try.underlying69 rfl rfl rfl inf67 (by decide) rfl) ?_
        refine AL.rd rfl rfl (rd_load_ref Try.underlying67 rfl rfl rfl rfl rfl rfl) ?_
        refine AL.rp rfl rfl (rp_len_map Try.underlying67 rfl rfl (by assumption)) ?_
        refine AL.rp rfl rfl (rp_move rfl rfl) ?_
        refine AL.nil ?_
        try simp only [thenS, S.put]
        refine AW.block ?_
        refine AW.loop (fun s' => ∃ (i : Nat) (Q3 : List Wy), i ≤ la ∧ Q3.length ≤ Q1.length + 1 + i ∧ Hp HB.key Q3 ∧ Kb N sts I G E E0 out (chA (dst I G) x.c (sa.drop i) ++ Q3) (snF SN2) x.l (exps N SN2) ∧ s' = ⟨154, [(1, .i N), (2, .ref 2 0), (7, .d (intsN T)), (9, .own 100 1 ol (decide (ol = 0))), (10, .ref 900 0), (11, .own 59 1 n false), (12, .ref 12 0), (121, .d (arsD sa)), (122, .i la), (123, .i i)], hpBl Q3 false [(2, ⟨24, [.i st, .d (stsD sts)], false, 0⟩), (12, ⟨112, wyV x, false, 0⟩), (59, ⟨3, SN2.map V.n, false, 1⟩), (100, ⟨3, out.map V.n, decide (ol = 0), 1⟩)], []⟩) (fun s' => la - s'.nat 123) ⟨_, ?_, 0, Q2, by omega, by omega, hh2, hK2, rfl⟩ ?_
        ·exact (Less.of rfl (by repeat (first | exact trivial | refine ⟨⟨_, rfl, Wk.refl _⟩, ?_⟩ | refine ⟨⟨_, rfl, Wk.nil _ _⟩, ?_⟩ | refine ⟨⟨_, rfl, Wk.junk _⟩, ?_⟩)) (by repeat (first | exact trivial | refine ⟨rfl, ?_⟩)) rfl)
        clear hK2 hh2 hq2 hl2
        rintro s' ⟨i, Q3, hi, hq3, hh3, hK3, rfl⟩
        by_cases hil : i < la
        ·obtain ⟨a, ha⟩ := get_lt hla hil
         have hyl := List.getElem?_eq_some_iff.1 ha
         rw [List.drop_eq_getElem_cons hyl.1, hyl.2] at hK3
         have haa := hsa a (List.mem_of_getElem? ha)
         clear hyl
         obtain ⟨ai, ao, aw, at'⟩ := a
         simp only at haa
         obtain ⟨t, rfl⟩ : ∃ p : Nat, at' = p := ⟨at'.toNat, by omega⟩
         obtain ⟨w, rfl⟩ : ∃ w : Nat, aw = w := ⟨aw.toNat, by omega⟩
         have htn : t < n := by omega
         have hTt := hT t htn
         by_cases hdt : dst I G t = big
         ·have hch : chA (dst I G) x.c (⟨ai, ao, (w : Int), (t : Int)⟩ :: sa.drop (i + 1)) = chA (dst I G) x.c (sa.drop (i + 1)) := chA_none (by simp only [Int.toNat_natCast]; exact hdt)
          rw [hch] at hK3
          have htl : tell (dst I G t) = 1000000001 := by unfold tell; rw [if_pos hdt]
          rw [htl] at hTt
          clear htl hdt hch
          refine AW.seq ?_
          refine AW.region ?_
          (refine AL.rp rfl rfl (rp_lssT rfl rfl rfl (by first | assumption | omega | (dsimp only; omega))) ?_)
          refine AL.nil ?_
          try simp only [thenS, S.put]
          refine AW.seq ?_
          refine AW.condT rfl ?_
          refine AW.skip ?_
          try simp only [thenS]
          refine AW.seq ?_
          refine AW.block ?_
          refine AW.seq ?_
          refine AW.region ?_
          refine AL.rp rfl rfl (rp_index_map Try.underlying67 inf79 rfl rfl rfl rfl (by assumption)) ?_
          refine AL.rd rfl rfl (rd_loads_ad Try.underlying79 rfl inf79 rfl rfl rfl rfl) ?_
          refine AL.sm rfl (sm_alloc (l := [.d (.p (.int .i64 0)), .d (.p (.int .i64 0)), .d (.p (.int .i64 0)), .d (.p (.int .i64 0))]) 15 inf79 rfl (by simp [S.clean, S.put, S.newObj, S.forget, V.has, V.hasL, junkIf, setL, V.cs, hasL_i, hasL_b, hasL_s, hasL_n, hasL_rep, hasL_flat, hasL_append, -List.map_set]) rfl rfl) ?_
          refine AL.st rfl (st_store_any inf79 rfl rfl rfl rfl rfl rfl rfl rfl (by first | decide | (simp; done) | (simp; omega)) rfl) ?_
          refine AL.nil ?_
          try simp only [thenS, S.put, S.newObj, setL, V.cs, List.length_cons, List.length_nil, List.take_succ_cons, List.take_zero, List.drop_succ_cons, List.drop_zero, List.drop_nil, List.nil_append, List.cons_append, List.append_nil, Nat.zero_add, Nat.reduceAdd, List.map_cons, List.map_nil, List.set_cons_zero, List.set_cons_succ]
          refine AW.seq ?_
          refine AW.region ?_
          refine AL.rp rfl rfl (rp_move rfl rfl) ?_
          refine AL.rp rfl rfl (rp_field_ref Try.underlying79 rfl rfl rfl inf3 (by decide) rfl) ?_
          refine AL.rd rfl rfl (rd_load_ref Try.underlying3 rfl rfl rfl rfl rfl rfl) ?_
          refine AL.rp rfl rfl (rp_index_map Try.underlying29 inf3 rfl rfl rfl rfl (by assumption)) ?_
          refine AL.rd rfl rfl (rd_load_ad Try.underlying3 rfl rfl rfl rfl) ?_
          (refine AL.rp rfl rfl (rp_neqF rfl rfl rfl (by first | assumption | omega | (dsimp only; omega))) ?_)
          refine AL.nil ?_
          try simp only [thenS, S.put]
          refine AW.condF rfl ?_
          refine AW.skip ?_
          try simp only [thenS]
          refine AW.region ?_
          refine AL.rp rfl rfl (rp_add rfl rfl rfl (by first | omega | (dsimp only; omega))) ?_
          refine AL.rp rfl rfl (rp_move rfl rfl) ?_
          refine AL.nil ?_
          try simp only [thenS, S.put]
          refine ⟨_, ?_, ⟨i + 1, Q3, by omega, by omega, hh3, hK3, rfl⟩, ?_⟩
          ·exact (Less.of rfl (by repeat (first | exact trivial | refine ⟨⟨_, rfl, Wk.refl _⟩, ?_⟩ | refine ⟨⟨_, rfl, Wk.nil _ _⟩, ?_⟩ | refine ⟨⟨_, rfl, Wk.junk _⟩, ?_⟩)) (by repeat (first | exact trivial | refine ⟨rfl, ?_⟩)) rfl)
          ·simp [S.nat, fnd]; omega
         ·have hch : chA (dst I G) x.c (⟨ai, ao, (w : Int), (t : Int)⟩ :: sa.drop (i + 1)) = ⟨(t : Int), x.c + w, x.c + w + dst I G t⟩ :: chA (dst I G) x.c (sa.drop (i + 1)) := by
           have := chA_some (D := dst I G) (c := x.c) (a := ⟨ai, ao, (w : Int), (t : Int)⟩) (l := sa.drop (i + 1)) (by simp only [Int.toNat_natCast]; exact hdt)
           simpa only [Int.toNat_natCast] using this
          rw [hch, List.cons_append] at hK3
          have hd9 := hKG.low t (by have := (dst_spec (Init := I) (Edge := G) t).1; omega)
          have htl : tell (dst I G t) = dst I G t := by unfold tell; rw [if_neg hdt]
          rw [htl] at hTt
          obtain ⟨dt, hdt'⟩ : ∃ d, dst I G t = d := ⟨_, rfl⟩
          rw [hdt'] at hTt hK3 hd9
          have hne : ¬ ((dt : Nat) : Int) = 1000000001 := by omega
          clear htl hdt hdt' hch
          have hl3 : Lw [(2, (⟨24, [.i st, .d (stsD sts)], false, 0⟩ : Row)), (12, ⟨112, wyV x, false, 0⟩), (15, ⟨79, [.i ai, .i ao, .i w, .i t], false, 0⟩), (59, ⟨3, SN2.map V.n, false, 1⟩), (100, ⟨3, out.map V.n, decide (ol = 0), 1⟩)] [] := ⟨by simp [V.lowL, V.low, lowL_nB], rfl⟩
          have hr3 : Q3.length < 100000000 := by omega
          refine AW.seq ?_
          refine AW.region ?_
          (refine AL.rp rfl rfl (rp_lssT rfl rfl rfl (by first | assumption | omega | (dsimp only; omega))) ?_)
          refine AL.nil ?_
          try simp only [thenS, S.put]
          refine AW.seq ?_
          refine AW.condT rfl ?_
          refine AW.skip ?_
          try simp only [thenS]
          refine AW.seq ?_
          refine AW.block ?_
          refine AW.seq ?_
          refine AW.region ?_
          refine AL.rp rfl rfl (rp_index_map Try.underlying67 inf79 rfl rfl rfl rfl (by assumption)) ?_
          refine AL.rd rfl rfl (rd_loads_ad Try.underlying79 rfl inf79 rfl rfl rfl rfl) ?_
          refine AL.sm rfl (sm_alloc (l := [.d (.p (.int .i64 0)), .d (.p (.int .i64 0)), .d (.p (.int .i64 0)), .d (.p (.int .i64 0))]) 15 inf79 rfl (by simp [S.clean, S.put, S.newObj, S.forget, V.has, V.hasL, junkIf, setL, V.cs, hasL_i, hasL_b, hasL_s, hasL_n, hasL_rep, hasL_flat, hasL_append, -List.map_set]) rfl rfl) ?_
          refine AL.st rfl (st_store_any inf79 rfl rfl rfl rfl rfl rfl rfl rfl (by first | decide | (simp; done) | (simp; omega)) rfl) ?_
          refine AL.nil ?_
          try simp only [thenS, S.put, S.newObj, setL, V.cs, List.length_cons, List.length_nil, List.take_succ_cons, List.take_zero, List.drop_succ_cons, List.drop_zero, List.drop_nil, List.nil_append, List.cons_append, List.append_nil, Nat.zero_add, Nat.reduceAdd, List.map_cons, List.map_nil, List.set_cons_zero, List.set_cons_succ]
          refine AW.seq ?_
          refine AW.region ?_
          refine AL.rp rfl rfl (rp_move rfl rfl) ?_
          refine AL.rp rfl rfl (rp_field_ref Try.underlying79 rfl rfl rfl inf3 (by decide) rfl) ?_
          refine AL.rd rfl rfl (rd_load_ref Try.underlying3 rfl rfl rfl rfl rfl rfl) ?_
          refine AL.rp rfl rfl (rp_index_map Try.underlying29 inf3 rfl rfl rfl rfl (by assumption)) ?_
          refine AL.rd rfl rfl (rd_load_ad Try.underlying3 rfl rfl rfl rfl) ?_
          (refine AL.rp rfl rfl (rp_neqT rfl rfl rfl (by first | assumption | omega | (dsimp only; omega))) ?_)
          refine AL.nil ?_
          try simp only [thenS, S.put]
          refine AW.condT rfl ?_
          refine AW.seq ?_
          refine AW.region ?_
          refine AL.rp rfl rfl (rp_field_ref Try.underlying112 rfl rfl rfl inf3 (by decide) rfl) ?_
          refine AL.rd rfl rfl (rd_load_ref Try.underlying3 rfl rfl rfl rfl rfl rfl) ?_
          refine AL.rp rfl rfl (rp_field_ref Try.underlying79 rfl rfl rfl inf3 (by decide) rfl) ?_
          refine AL.rd rfl rfl (rd_load_ref Try.underlying3 rfl rfl rfl rfl rfl rfl) ?_
          refine AL.rp rfl rfl (rp_addZ (((x.c + w : Nat) : Int)) rfl rfl rfl (by omega) (by omega)) ?_
          refine AL.rp rfl rfl (rp_assign rfl rfl) ?_
          refine AL.nil ?_
          try simp only [thenS, S.put]
          refine AW.less (Less.hp (T := [(1, _), (2, _), (7, _), (9, _), (10, _), (11, _), (12, _), (15, _), (16, _), (121, _), (122, _), (123, _)]) (H0 := [(2, _), (12, _), (15, _), (59, _), (100, _)]) (by repeat (first | exact trivial | refine ⟨⟨_, rfl, Wk.refl _⟩, ?_⟩)) rfl rfl (LH.of (by repeat (first | exact trivial | refine ⟨rfl, ?_⟩)))) ?_
          refine AW.drawF [(0, 2), (1, 2), (2, 1), (3, 2), (4, 2), (5, 2), (6, 2), (7, 1), (8, 2), (9, 1), (10, 2), (11, 2), (12, 2), (13, 0)] (fun i => !([13] : List Nat).contains i) 14 (by kernel_rfl) (by kernel_rfl) rfl (by kernel_rfl) ?_
          refine AF1.rp rfl rfl rfl (fun _ _ h => h) (rp_mkIfc rfl rfl (fun _ _ => by kernel_rfl)) ?_
          refine AF1.rp rfl rfl rfl (fun _ _ h => h) (rp_field_ref Try.underlying79 rfl rfl rfl inf3 (by decide) rfl) ?_
          refine AF1.rd rfl rfl rfl (fun _ _ h => h) (rd_load_ref Try.underlying3 rfl rfl rfl rfl rfl rfl) ?_
          refine AF1.rp rfl rfl rfl (fun _ _ h => h) (rp_move rfl rfl) ?_
          refine AF1.rp rfl rfl rfl (fun _ _ h => h) (rp_move rfl rfl) ?_
          refine AF1.rp rfl rfl rfl (fun _ _ h => h) (rp_move rfl rfl) ?_
          refine AF1.rp rfl rfl rfl (fun _ _ h => h) (rp_field_ref Try.underlying79 rfl rfl rfl inf3 (by decide) rfl) ?_
          refine AF1.rd rfl rfl rfl (fun _ _ h => h) (rd_load_ref Try.underlying3 rfl rfl rfl rfl rfl rfl) ?_
          refine AF1.rp rfl rfl rfl (fun _ _ h => h) (rp_index_map Try.underlying29 inf3 rfl rfl rfl rfl (by assumption)) ?_
          refine AF1.rd rfl rfl rfl (fun _ _ h => h) (rd_load_ad Try.underlying3 rfl rfl rfl rfl) ?_
          refine AF1.rp rfl rfl rfl (fun _ _ h => h) (rp_addZ (((x.c + w + dt : Nat) : Int)) rfl rfl rfl (by omega) (by omega)) ?_
          refine AF1.rp rfl rfl rfl (fun _ _ h => h) (rp_build (vs := [(0, _), (1, _), (2, _)]) (zs := [.d (.p (.int .i64 0)), .d (.p (.int .i64 0)), .d (.p (.int .i64 0))]) pl112 inf112 rfl rfl rfl rfl) ?_
          refine AF1.rp rfl rfl rfl (fun _ _ h => h) (rp_mkA [_, _, _] rfl rfl rfl (fun _ _ => by kernel_rfl)) ?_
          refine AF1.go ?_
          refine AF2.go ?_
          try simp only [S.put, S.newObj, setL, V.cs, List.length_cons, List.length_nil, List.take_succ_cons, List.take_zero, List.drop_succ_cons, List.drop_zero, List.drop_nil, List.nil_append, List.cons_append, List.append_nil, Nat.zero_add, Nat.reduceAdd]
          refine AF3.pc rfl rfl [1, 2, 7, 9, 10, 11, 12, 121, 122, 123] (ts := [_, _, _, _, _, _, _, _, _, _]) (args := [_, _]) (post := ?pc18) ?hc18 rfl rfl rfl rfl rfl rfl rfl rfl rfl ?_
          case hc18 => (refine am_pushB (hl3.keepL _ ?_) Q3 false ⟨(t : Int), x.c + w, x.c + w + dt⟩ hr3 hh3 <;> first | rfl | (simp [V.lowL, V.low]; done))
          rintro _ _ _ ⟨Q4, k3, k4, rfl, rfl⟩
          simp only [back, S.put, List.cons_append, List.nil_append, List.zip_cons_cons, List.zip_nil_left, List.drop_succ_cons, List.drop_zero, List.length_cons, List.length_nil, Nat.zero_add, Nat.reduceAdd]
          refine AF3.nil ?_
          try simp only [thenS, S.put]
          refine AW.region ?_
          refine AL.rp rfl rfl (rp_add rfl rfl rfl (by first | omega | (dsimp only; omega))) ?_
          refine AL.rp rfl rfl (rp_move rfl rfl) ?_
          refine AL.nil ?_
          try simp only [thenS, S.put]
          have hq4 := k4.length_eq
          simp only [List.length_cons] at hq4
          refine ⟨_, ?_, ⟨i + 1, Q4, by omega, by omega, k3, hK3.perm (List.perm_middle.symm.trans (List.Perm.append_left _ k4.symm)), rfl⟩, ?_⟩
          ·exact (Less.of rfl (by repeat (first | exact trivial | refine ⟨⟨_, rfl, Wk.refl _⟩, ?_⟩ | refine ⟨⟨_, rfl, Wk.nil _ _⟩, ?_⟩ | refine ⟨⟨_, rfl, Wk.junk _⟩, ?_⟩)) (by repeat (first | exact trivial | refine ⟨rfl, ?_⟩)) rfl)
          ·simp [S.nat, fnd]; omega
        ·obtain rfl : i = la := by omega
         rw [List.drop_of_length_le (by omega)] at hK3
         have hK4 : Kb N sts I G E E0 out Q3 (snF SN2) x.l (exps N SN2) := hK3
         refine AW.seq ?_
         refine AW.region ?_
         (refine AL.rp rfl rfl (rp_lssF rfl rfl rfl (by first | assumption | omega | (dsimp only; omega))) ?_)
         refine AL.nil ?_
         try simp only [thenS, S.put]
         refine AW.seq ?_
         refine AW.condF rfl ?_
         refine AW.exit ?_
         try simp only [thenS, inBlockS, ↓reduceIte, Nat.reduceEqDiff]
         refine ⟨μ - 1, _, ?_, ⟨out, ol, Q3, false, SN2, x.l, by omega, by omega, hol, holN, ho9, hSl2, hSb2, (fun h => by cases h), hh3, hK4, rfl⟩, by omega⟩
         exact (Less.of rfl (by repeat (first | exact trivial | refine ⟨⟨_, rfl, Wk.refl _⟩, ?_⟩ | refine ⟨⟨_, rfl, Wk.nil _ _⟩, ?_⟩ | refine ⟨⟨_, rfl, Wk.junk _⟩, ?_⟩)) (by repeat (first | exact trivial | refine ⟨rfl, ?_⟩)) rfl)
     ·have htest2 : ¬ ((ol : Nat) : Int) < (N : Int) := by omega
      obtain ⟨rfl, rfl⟩ := hfin out hKb.srt ho9 (hKb.done hEd (by omega) (.inr (by omega)))
      refine AW.seq ?_
      refine AW.seq ?_
      refine AW.region ?_
      refine AL.rd rfl rfl (rd_load_ref Try.underlying110 rfl rfl rfl rfl rfl rfl) ?_
      refine AL.rp rfl rfl (rp_len_own Try.underlying110 rfl rfl) ?_
      (refine AL.rp rfl rfl (rp_gtrT rfl rfl rfl (by first | assumption | omega | (dsimp only; omega))) ?_)
      refine AL.rp rfl rfl (rp_move rfl rfl) ?_
      refine AL.rpy rfl rfl rfl (rp_move rfl rfl) ?_
      refine AL.rpy rfl rfl rfl (rp_len_own Try.underlying29 rfl rfl) ?_
      refine AL.rpy rfl rfl rfl (rp_move rfl rfl) ?_
      (refine AL.rpy rfl rfl rfl (rp_lssF rfl rfl rfl (by first | assumption | omega | (dsimp only; omega))) ?_)
      refine AL.rp rfl rfl (rp_pick rfl rfl rfl) ?_
      refine AL.nil ?_
      try simp only [thenS, S.put]
      refine AW.condF rfl ?_
      refine AW.exit ?_
      try simp only [thenS, inBlockS, ↓reduceIte, Nat.reduceEqDiff]
      refine AW.seq ?_
      refine AW.freeze 9 8 (A.map encN) rfl rfl rfl (by rw [List.length_map]; exact hol) (by omega) (rows1 rfl) ?_
      refine AW.region ?_
      refine AL.rp rfl rfl (rp_move rfl rfl) ?_
      refine AL.rp rfl rfl (rp_assign rfl rfl) ?_
      refine AL.rp rfl rfl (rp_assign rfl rfl) ?_
      refine AL.nil ?_
      try simp only [thenS, S.put]
      refine AW.ret ?_
      exact ⟨[_, _], ⟨rfl, rfl, trivial⟩, .inl rfl, by simp [tupOf, V.pure, V.has, V.hasL]⟩
   ·have hcon := resI_ne (am_Ends0 m) hd
    have hE : kbE m (N : Int) = disE (enD m) m := by unfold kbE; rw [if_neg (by simp [h0]), if_neg (by simp; omega), if_pos hd]
    have hA : kbA m (N : Int) = [] := by unfold kbA; rw [if_neg (by rw [hE]; exact fun h => hd h.1)]
    rw [hE, hA]
    obtain ⟨e, he⟩ : ∃ e, disE (enD m) m = e := ⟨_, rfl⟩
    rw [he] at hd hcon ⊢
    clear hE hA he
    obtain ⟨st, sts⟩ := m
    refine Fn.intro (n := 154) ⟨Try.func43, rfl, rfl, rfl, rfl⟩ (by simp [V.pure, V.has, V.hasL]) (by simp) fun w0 out => ?_
    refine AW.seq ?_
    refine AW.region ?_
    refine AL.sm rfl (sm_box 2 rfl rfl rfl rfl rfl) ?_
    refine AL.rp rfl rfl (rp_assign rfl rfl) ?_
    refine AL.rp rfl rfl (rp_assign rfl rfl) ?_
    refine AL.nil ?_
    try simp only [thenS, S.put, S.newObj, setL, V.cs, List.length_cons, List.length_nil, List.take_succ_cons, List.take_zero, List.drop_succ_cons, List.drop_zero, List.drop_nil, List.nil_append, List.cons_append, List.append_nil, Nat.zero_add, Nat.reduceAdd, List.map_cons, List.map_nil, List.set_cons_zero, List.set_cons_succ, enum]
    refine AW.seq ?_
    refine AW.seq ?_
    refine AW.region ?_
    refine AL.rd rfl rfl (rd_loads_ref Try.underlying24 rfl inf24 rfl rfl rfl rfl rfl rfl) ?_
    refine AL.call (post := ?pc19) rfl (sm_call (args := [_]) ?hc19 ⟨Try.func45, rfl, rfl, rfl, rfl⟩ rfl rfl rfl rfl) ?_
    case hc19 => exact Fn.eqi (am_Check ⟨st, sts⟩) h0
    rintro _ rfl -
    try dsimp only
    refine AL.rp rfl rfl (rp_assign rfl rfl) ?_
    refine AL.nil ?_
    try simp only [thenS, S.put, S.newObj, setL, V.cs, List.length_cons, List.length_nil, List.take_succ_cons, List.take_zero, List.drop_succ_cons, List.drop_zero, List.drop_nil, List.nil_append, List.cons_append, List.append_nil, Nat.zero_add, Nat.reduceAdd, List.map_cons, List.map_nil, List.set_cons_zero, List.set_cons_succ]
    refine AW.seq ?_
    refine AW.region ?_
    refine AL.rp rfl rfl (rp_move rfl rfl) ?_
    (refine AL.rp rfl rfl (rp_neqF rfl rfl rfl (by first | assumption | omega | (dsimp only; omega))) ?_)
    refine AL.nil ?_
    try simp only [thenS, S.put]
    refine AW.condF rfl ?_
    refine AW.skip ?_
    try simp only [thenS]
    refine AW.seq ?_
    refine AW.seq ?_
    refine AW.region ?_
    refine AL.rp rfl rfl (rp_move rfl rfl) ?_
    (refine AL.rp rfl rfl (rp_lssF rfl rfl rfl (by first | assumption | omega | (dsimp only; omega))) ?_)
    refine AL.rp rfl rfl (rp_move rfl rfl) ?_
    refine AL.rpy rfl rfl rfl (rp_move rfl rfl) ?_
    (refine AL.rpy rfl rfl rfl (rp_gtrF rfl rfl rfl (by first | assumption | omega | (dsimp only; omega))) ?_)
    refine AL.rp rfl rfl (rp_pick rfl rfl rfl) ?_
    refine AL.nil ?_
    try simp only [thenS, S.put]
    refine AW.condF rfl ?_
    refine AW.skip ?_
    try simp only [thenS]
    refine AW.seq ?_
    refine AW.region ?_
    refine AL.rd rfl rfl (rd_loads_ref Try.underlying24 rfl inf24 rfl rfl rfl rfl rfl rfl) ?_
    refine AL.call (post := ?pc20) rfl (sm_call (args := [_]) ?hc20 ⟨Try.func65, rfl, rfl, rfl, rfl⟩ rfl rfl rfl rfl) ?_
    case hc20 => exact hcon
    rintro _ rfl -
    try dsimp only
    refine AL.rp rfl rfl (rp_move rfl rfl) ?_
    refine AL.rp rfl rfl (rp_extract rfl rfl rfl) ?_
    refine AL.rp rfl rfl (rp_extract rfl rfl rfl) ?_
    refine AL.rp rfl rfl (rp_assign rfl rfl) ?_
    refine AL.rp rfl rfl (rp_assign rfl rfl) ?_
    refine AL.nil ?_
    try simp only [thenS, S.put, S.newObj, setL, V.cs, List.length_cons, List.length_nil, List.take_succ_cons, List.take_zero, List.drop_succ_cons, List.drop_zero, List.drop_nil, List.nil_append, List.cons_append, List.append_nil, Nat.zero_add, Nat.reduceAdd, List.map_cons, List.map_nil, List.set_cons_zero, List.set_cons_succ]
    refine AW.seq ?_
    refine AW.seq ?_
    refine AW.region ?_
    refine AL.rp rfl rfl (rp_move rfl rfl) ?_
    (refine AL.rp rfl rfl (rp_neqT rfl rfl rfl (by first | assumption | omega | (dsimp only; omega))) ?_)
    refine AL.nil ?_
    try simp only [thenS, S.put]
    refine AW.condT rfl ?_
    refine AW.seq ?_
    refine AW.region ?_
    refine AL.rp rfl rfl (rp_move rfl rfl) ?_
    refine AL.rp rfl rfl (rp_assign rfl rfl) ?_
    refine AL.rp rfl rfl (rp_assign rfl rfl) ?_
    refine AL.nil ?_
    try simp only [thenS, S.put]
    refine AW.ret ?_
    exact ⟨[_, _], ⟨rfl, rfl, trivial⟩, .inr ⟨rfl, rfl⟩, by simp [tupOf, V.pure, V.has, V.hasL]⟩
  ·have hE : kbE m nn = 2 := by unfold kbE; rw [if_neg (by simp [h0]), if_pos hN]
   have hA : kbA m nn = [] := by unfold kbA; rw [if_neg (by rw [hE]; omega)]
   rw [hE, hA]
   clear hE hA
   obtain ⟨st, sts⟩ := m
   refine Fn.intro (n := 154) ⟨Try.func43, rfl, rfl, rfl, rfl⟩ (by simp [V.pure, V.has, V.hasL]) (by simp) fun w0 out => ?_
   by_cases h1 : nn < 0
   ·refine AW.seq ?_
    refine AW.region ?_
    refine AL.sm rfl (sm_box 2 rfl rfl rfl rfl rfl) ?_
    refine AL.rp rfl rfl (rp_assign rfl rfl) ?_
    refine AL.rp rfl rfl (rp_assign rfl rfl) ?_
    refine AL.nil ?_
    try simp only [thenS, S.put, S.newObj, setL, V.cs, List.length_cons, List.length_nil, List.take_succ_cons, List.take_zero, List.drop_succ_cons, List.drop_zero, List.drop_nil, List.nil_append, List.cons_append, List.append_nil, Nat.zero_add, Nat.reduceAdd, List.map_cons, List.map_nil, List.set_cons_zero, List.set_cons_succ, enum]
    refine AW.seq ?_
    refine AW.seq ?_
    refine AW.region ?_
    refine AL.rd rfl rfl (rd_loads_ref Try.underlying24 rfl inf24 rfl rfl rfl rfl rfl rfl) ?_
    refine AL.call (post := ?pc21) rfl (sm_call (args := [_]) ?hc21 ⟨Try.func45, rfl, rfl, rfl, rfl⟩ rfl rfl rfl rfl) ?_
    case hc21 => exact Fn.eqi (am_Check ⟨st, sts⟩) h0
    rintro _ rfl -
    try dsimp only
    refine AL.rp rfl rfl (rp_assign rfl rfl) ?_
    refine AL.nil ?_
    try simp only [thenS, S.put, S.newObj, setL, V.cs, List.length_cons, List.length_nil, List.take_succ_cons, List.take_zero, List.drop_succ_cons, List.drop_zero, List.drop_nil, List.nil_append, List.cons_append, List.append_nil, Nat.zero_add, Nat.reduceAdd, List.map_cons, List.map_nil, List.set_cons_zero, List.set_cons_succ]
    refine AW.seq ?_
    refine AW.region ?_
    refine AL.rp rfl rfl (rp_move rfl rfl) ?_
    (refine AL.rp rfl rfl (rp_neqF rfl rfl rfl (by first | assumption | omega | (dsimp only; omega))) ?_)
    refine AL.nil ?_
    try simp only [thenS, S.put]
    refine AW.condF rfl ?_
    refine AW.skip ?_
    try simp only [thenS]
    refine AW.seq ?_
    refine AW.seq ?_
    refine AW.region ?_
    refine AL.rp rfl rfl (rp_move rfl rfl) ?_
    (refine AL.rp rfl rfl (rp_lssT rfl rfl rfl (by first | assumption | omega | (dsimp only; omega))) ?_)
    refine AL.rp rfl rfl (rp_move rfl rfl) ?_
    refine AL.noV rfl rfl rfl rfl ?_
    refine AL.noV rfl rfl rfl rfl ?_
    refine AL.rp rfl rfl (rp_pick rfl rfl rfl) ?_
    refine AL.nil ?_
    try simp only [thenS, S.put]
    refine AW.condT rfl ?_
    refine AW.seq ?_
    refine AW.region ?_
    refine AL.rp rfl rfl (rp_assign rfl rfl) ?_
    refine AL.rp rfl rfl (rp_assign rfl rfl) ?_
    refine AL.nil ?_
    try simp only [thenS, S.put]
    refine AW.ret ?_
    exact ⟨[_, _], ⟨rfl, rfl, trivial⟩, .inr ⟨rfl, rfl⟩, by simp [tupOf, V.pure, V.has, V.hasL]⟩
   ·have h2 : nn > 20 := by omega
    refine AW.seq ?_
    refine AW.region ?_
    refine AL.sm rfl (sm_box 2 rfl rfl rfl rfl rfl) ?_
    refine AL.rp rfl rfl (rp_assign rfl rfl) ?_
    refine AL.rp rfl rfl (rp_assign rfl rfl) ?_
    refine AL.nil ?_
    try simp only [thenS, S.put, S.newObj, setL, V.cs, List.length_cons, List.length_nil, List.take_succ_cons, List.take_zero, List.drop_succ_cons, List.drop_zero, List.drop_nil, List.nil_append, List.cons_append, List.append_nil, Nat.zero_add, Nat.reduceAdd, List.map_cons, List.map_nil, List.set_cons_zero, List.set_cons_succ, enum]
    refine AW.seq ?_
    refine AW.seq ?_
    refine AW.region ?_
    refine AL.rd rfl rfl (rd_loads_ref Try.underlying24 rfl inf24 rfl rfl rfl rfl rfl rfl) ?_
    refine AL.call (post := ?pc22) rfl (sm_call (args := [_]) ?hc22 ⟨Try.func45, rfl, rfl, rfl, rfl⟩ rfl rfl rfl rfl) ?_
    case hc22 => exact Fn.eqi (am_Check ⟨st, sts⟩) h0
    rintro _ rfl -
    try dsimp only
    refine AL.rp rfl rfl (rp_assign rfl rfl) ?_
    refine AL.nil ?_
    try simp only [thenS, S.put, S.newObj, setL, V.cs, List.length_cons, List.length_nil, List.take_succ_cons, List.take_zero, List.drop_succ_cons, List.drop_zero, List.drop_nil, List.nil_append, List.cons_append, List.append_nil, Nat.zero_add, Nat.reduceAdd, List.map_cons, List.map_nil, List.set_cons_zero, List.set_cons_succ]
    refine AW.seq ?_
    refine AW.region ?_
    refine AL.rp rfl rfl (rp_move rfl rfl) ?_
    (refine AL.rp rfl rfl (rp_neqF rfl rfl rfl (by first | assumption | omega | (dsimp only; omega))) ?_)
    refine AL.nil ?_
    try simp only [thenS, S.put]
    refine AW.condF rfl ?_
    refine AW.skip ?_
    try simp only [thenS]
    refine AW.seq ?_
    refine AW.seq ?_
    refine AW.region ?_
    refine AL.rp rfl rfl (rp_move rfl rfl) ?_
    (refine AL.rp rfl rfl (rp_lssF rfl rfl rfl (by first | assumption | omega | (dsimp only; omega))) ?_)
    refine AL.rp rfl rfl (rp_move rfl rfl) ?_
    refine AL.rpy rfl rfl rfl (rp_move rfl rfl) ?_
    (refine AL.rpy rfl rfl rfl (rp_gtrT rfl rfl rfl (by first | assumption | omega | (dsimp only; omega))) ?_)
    refine AL.rp rfl rfl (rp_pick rfl rfl rfl) ?_
    refine AL.nil ?_
    try simp only [thenS, S.put]
    refine AW.condT rfl ?_
    refine AW.seq ?_
    refine AW.region ?_
    refine AL.rp rfl rfl (rp_assign rfl rfl) ?_
    refine AL.rp rfl rfl (rp_assign rfl rfl) ?_
    refine AL.nil ?_
    try simp only [thenS, S.put]
    refine AW.ret ?_
    exact ⟨[_, _], ⟨rfl, rfl, trivial⟩, .inr ⟨rfl, rfl⟩, by simp [tupOf, V.pure, V.has, V.hasL]⟩
 ·have hE : kbE m nn = machE m := by unfold kbE; rw [if_pos h0]
  have hA : kbA m nn = [] := by unfold kbA; rw [if_neg (by rw [hE]; exact fun h => h0 h.1)]
  rw [hE, hA]
  clear hE hA
  obtain ⟨st, sts⟩ := m
  obtain ⟨e, he⟩ : ∃ e, machE ⟨st, sts⟩ = e := ⟨_, rfl⟩
  rw [he] at h0 ⊢
  refine Fn.intro (n := 154) ⟨Try.func43, rfl, rfl, rfl, rfl⟩ (by simp [V.pure, V.has, V.hasL]) (by simp) fun w0 out => ?_
  refine AW.seq ?_
  refine AW.region ?_
  refine AL.sm rfl (sm_box 2 rfl rfl rfl rfl rfl) ?_
  refine AL.rp rfl rfl (rp_assign rfl rfl) ?_
  refine AL.rp rfl rfl (rp_assign rfl rfl) ?_
  refine AL.nil ?_
  try simp only [thenS, S.put, S.newObj, setL, V.cs, List.length_cons, List.length_nil, List.take_succ_cons, List.take_zero, List.drop_succ_cons, List.drop_zero, List.drop_nil, List.nil_append, List.cons_append, List.append_nil, Nat.zero_add, Nat.reduceAdd, List.map_cons, List.map_nil, List.set_cons_zero, List.set_cons_succ, enum]
  refine AW.seq ?_
  refine AW.seq ?_
  refine AW.region ?_
  refine AL.rd rfl rfl (rd_loads_ref Try.underlying24 rfl inf24 rfl rfl rfl rfl rfl rfl) ?_
  refine AL.call (post := ?pc23) rfl (sm_call (args := [_]) ?hc23 ⟨Try.func45, rfl, rfl, rfl, rfl⟩ rfl rfl rfl rfl) ?_
  case hc23 => exact Fn.eqi (am_Check ⟨st, sts⟩) he
  rintro _ rfl -
  try dsimp only
  refine AL.rp rfl rfl (rp_assign rfl rfl) ?_
  refine AL.nil ?_
  try simp only [thenS, S.put, S.newObj, setL, V.cs, List.length_cons, List.length_nil, List.take_succ_cons, List.take_zero, List.drop_succ_cons, List.drop_zero, List.drop_nil, List.nil_append, List.cons_append, List.append_nil, Nat.zero_add, Nat.reduceAdd, List.map_cons, List.map_nil, List.set_cons_zero, List.set_cons_succ]
  refine AW.seq ?_
  refine AW.region ?_
  refine AL.rp rfl rfl (rp_move rfl rfl) ?_
  (refine AL.rp rfl rfl (rp_neqT rfl rfl rfl (by first | assumption | omega | (dsimp only; omega))) ?_)
  refine AL.nil ?_
  try simp only [thenS, S.put]
  refine AW.condT rfl ?_
  refine AW.seq ?_
  refine AW.region ?_
  refine AL.rp rfl rfl (rp_move rfl rfl) ?_
  refine AL.rp rfl rfl (rp_assign rfl rfl) ?_
  refine AL.rp rfl rfl (rp_assign rfl rfl) ?_
  refine AL.nil ?_
  try simp only [thenS, S.put]
  refine AW.ret ?_
  exact ⟨[_, _], ⟨rfl, rfl, trivial⟩, .inr ⟨rfl, rfl⟩, by simp [tupOf, V.pure, V.has, V.hasL]⟩
end Go.Proofs.Ytnpbdcjfealoeaa
