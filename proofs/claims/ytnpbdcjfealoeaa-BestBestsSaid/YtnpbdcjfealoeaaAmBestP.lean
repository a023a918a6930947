-- %hmode
/- best.Best and the document's: the way along tight arcs. -/
import Derived.Test.YtnpbdcjfealoeaaAmShort
import Derived.Test.YtnpbdcjfealoeaaAmLeast
namespace Go.Proofs.Ytnpbdcjfealoeaa
open Go.RowKit
set_option linter.unusedSimpArgs false
set_option linter.unusedVariables false
set_option maxRecDepth 100000

noncomputable def bsI (m : Mach) : Nat → Nat → Prop := fInit (enF m)
noncomputable def bsG (m : Mach) : Nat → Nat → Nat → Prop := fEdge (enE m)
noncomputable def bsT (m : Mach) : List Nat := dstL (TI (bsI m) (bsG m)) (TE (bsI m) (bsG m)) m.states.length
theorem tws_get {I : Nat → Nat → Prop} {G : Nat → Nat → Nat → Prop} {n q : Nat} (h : q < n) : ((List.range n).map (tws I G))[q]? = some (tws I G q) := by simp [List.getElem?_range h]
theorem dstL_get {I : Nat → Nat → Prop} {G : Nat → Nat → Nat → Prop} {n q : Nat} (h : q < n) : (dstL I G n)[q]? = some (dst I G q) := by simp [dstL, List.getElem?_range h]
theorem bsg_lt {m : Mach} (h0 : machE m = 0) {q d : Nat} (h : Pth (bsI m) (bsG m) q d) : q < m.states.length := by
 obtain ⟨h60, h400, hst, hz⟩ := machE_zero h0
 cases h with
 | init _ _ h => exact (en_init.1 h).1
 | step p _ d w h e =>
  obtain ⟨x, j, a, h1, _⟩ := (en_edge (m := m) (fun s hs a ha => by have := (hz s hs).2 a ha; simp only [arOk, decide_eq_true_eq] at this; omega)).1 e
  exact (List.getElem?_eq_some_iff.1 h1).1
theorem bsg_of {m : Mach} (h0 : machE m = 0) (he : disE (enD m) m = 0) : BsG m.states m.states.length (bsI m) (bsG m) ((enD m).map tell) := by
 obtain ⟨h60, h400, hst, hz⟩ := machE_zero h0
 have hed : ∀ {p q w}, fEdge (enE m) p q w ↔ _ := fun {p q w} => en_edge (m := m) (fun s hs a ha => by have := (hz s hs).2 a ha; simp only [arOk, decide_eq_true_eq] at this; omega)
 refine ⟨en_init, hed, fun p q w h => ?_, fun q h => ?_, fun q hq => ?_⟩
 ·obtain ⟨x, j, a, h1, h2, h3, h4⟩ := hed.1 h
  have h5 := (hz x (List.mem_of_getElem? h1)).2 a (List.mem_of_getElem? h2)
  simp only [arOk, decide_eq_true_eq] at h5
  exact ⟨by omega, (List.getElem?_eq_some_iff.1 h1).1⟩
 ·have hq := bsg_lt h0 ((dst_spec (Init := bsI m) (Edge := bsG m) q).2.1 h)
  unfold disE at he
  rw [if_neg (by simp [h0])] at he
  by_cases hall : (enD m).all okD = true
  ·have h1 := List.all_eq_true.1 hall (dst (bsI m) (bsG m) q) (by unfold enD dstL; exact List.mem_map.2 ⟨q, List.mem_range.2 hq, rfl⟩)
   simp only [okD, decide_eq_true_eq] at h1
   omega
  ·rw [if_neg hall] at he; omega
 ·rw [List.getElem?_map, show (enD m)[q]? = some (dst (bsI m) (bsG m) q) from dstL_get hq, Option.map_some]

/-- The answer: an error, or the path. -/
noncomputable def bestE (m : Mach) : Int := if disE (enD m) m ≠ 0 then disE (enD m) m else if leastV m = 1000000001 then 12 else 0
noncomputable def bestP (m : Mach) : List Int := if bestE m = 0 then wayL m.states (enD m) (bsT m) ((bsT m).getD m.start.toNat 0) m.start.toNat else []
noncomputable def bestW (m : Mach) : Int := if bestE m = 0 then leastV m else 0
def resB (e w : Int) (p : List Int) (v : V) : Prop := e ≠ 0 ∧ v = .tup [.agg [.i 0, .nil], .i e] ∨ e = 0 ∧ v = .tup [.agg [.i w, .d (intsD p)], .i 0]
theorem resB_wk {e w : Int} {p : List Int} (hM : e ≠ 0 → w = 0 ∧ p = []) (v : V) (h : resB e w p v) (_ : v.pure) : ∃ v', v' = .tup [.agg [.i w, .d (intsD p)], .i e] ∧ v'.pure ∧ ∀ w q g x, VRep w q g v x → VRep w q g v' x := by
 refine ⟨_, rfl, by simp [V.pure, V.has, V.hasL], ?_⟩
 rcases h with ⟨h0, rfl⟩ | ⟨h0, rfl⟩
 ·obtain ⟨rfl, rfl⟩ := hM h0
  refine rep_tup2 fun w q g x hx => ?_
  cases hx with
  | agg _ cs hl hh =>
   refine .agg _ cs hl fun j y z hy hz => ?_
   match j, hy with
   | 0, hy => exact hh 0 y z hy hz
   | 1, hy => simp at hy; subst hy; exact (Wk.nil 1 8).rep (hh 1 .nil z rfl hz)
   | n + 2, hy => simp at hy
 ·rw [h0]
  exact fun _ _ _ _ h => h
theorem bestP_nil {m : Mach} (h : bestE m ≠ 0) : bestW m = 0 ∧ bestP m = [] := by
 unfold bestW bestP; rw [if_neg h, if_neg h]; exact ⟨rfl, rfl⟩
/-- What is known at the start of the way. -/
theorem best_ok {m : Mach} (he : bestE m = 0) : machE m = 0 ∧ disE (enD m) m = 0 ∧ ∃ p : Nat, m.start = p ∧ p < m.states.length ∧ dst (bsI m) (bsG m) p ≤ 1000000000 ∧ leastV m = (dst (bsI m) (bsG m) p : Nat) ∧ LeastB (bsI m) (bsG m) p (dst (TI (bsI m) (bsG m)) (TE (bsI m) (bsG m)) p) := by
 unfold bestE at he
 by_cases h1 : disE (enD m) m = 0
 ·rw [if_neg (by simp [h1])] at he
  have h0 := dis_mach h1
  obtain ⟨h60, h400, hst, hz⟩ := machE_zero h0
  by_cases h2 : leastV m = 1000000001
  ·rw [if_pos h2] at he; omega
  ·refine ⟨h0, h1, ?_⟩
   have hB := bsg_of h0 h1
   have hV : leastV m = if m.start < 0 then 1000000001 else (((disL (enD m) m).getD m.start.toNat 0 : Nat) : Int) := by unfold leastV; rw [if_neg (by simp [h1])]
   have hs : ¬ m.start < 0 := fun h => h2 (by rw [hV, if_pos h])
   obtain ⟨p, hp⟩ : ∃ p : Nat, m.start = p := ⟨m.start.toNat, by omega⟩
   have hpn : p < m.states.length := by omega
   rw [if_neg hs, hp, Int.toNat_natCast] at hV
   have hd : (disL (enD m) m).getD p 0 = tell (dst (bsI m) (bsG m) p) := by unfold disL; rw [if_pos h1, List.getD_eq_getElem?_getD, hB.far p hpn, Option.getD_some]
   rw [hd] at hV
   have ht := hB.tell p
   rcases ht with ⟨h3, _⟩ | ⟨h3, h4⟩
   ·rw [h3] at hV; exact absurd hV h2
   ·refine ⟨p, hp, hpn, h4, by rw [hV, h3], ?_⟩
    have hbig := big_eq
    obtain ⟨k, hk⟩ := leastB_ex (Init := bsI m) (Edge := bsG m) (q := p) (by omega)
    rw [hk.dst (fun q p w h => (hB.inn q p w h).1) (by omega)]
    exact hk
 ·rw [if_pos h1] at he; exact absurd he h1
/-- Tight arcs, as both sides test them. -/
theorem good_iff {sts : List St} {n : Nat} {I : Nat → Nat → Prop} {G : Nat → Nat → Nat → Prop} {FL : List Nat} (hB : BsG sts n I G FL) {p q w : Nat} {a : Ar} (hp : p < n) (hq : q < n) (ht : a.t = (p : Int)) (hw : a.w = (w : Int)) :
  goodA (dstL I G n) (dstL (TI I G) (TE I G) n) q a ↔ dst I G p < big ∧ w + dst I G p = dst I G q ∧ dst (TI I G) (TE I G) p + 1 = dst (TI I G) (TE I G) q := by
 unfold goodA
 constructor
 ·rintro ⟨p', f, h1, h2, h3, g, t, u, h4, h5, h6, h7, h8⟩
  obtain rfl : p = p' := by omega
  rw [dstL_get hp] at h2 h6
  rw [dstL_get hq] at h4 h7
  simp only [Option.some.injEq] at h2 h4 h6 h7
  subst h2 h4 h6 h7
  exact ⟨h3, by omega, h8⟩
 ·rintro ⟨h1, h2, h3⟩
  exact ⟨p, _, ht, dstL_get hp, h1, _, _, _, dstL_get hq, by omega, dstL_get hp, dstL_get hq, h3⟩
theorem good_ex {sts : List St} {n k q : Nat} {I : Nat → Nat → Prop} {G : Nat → Nat → Nat → Prop} {FL : List Nat} {x : St} (hn : n ≤ 60) (hB : BsG sts n I G FL) (hq : q < n) (hx : sts[q]? = some x) (hk : LeastB I G q (k + 1)) : ∃ (j : Nat) (a : Ar), x.arcs[j]? = some a ∧ goodA (dstL I G n) (dstL (TI I G) (TE I G) n) q a := by
 have hbig := big_eq
 have hin := fun q p w h => (hB.inn q p w h).1
 obtain ⟨p, v, h1, h2, h3, h4⟩ := hk.pred
 obtain ⟨x', j, a, h5, h6, h7, h8⟩ := hB.edge.1 h2
 rw [hx] at h5
 simp only [Option.some.injEq] at h5
 subst h5
 refine ⟨j, a, h6, (good_iff hB (hB.inn p q v h2).1 hq h7 h8).2 ⟨h3, by omega, ?_⟩⟩
 rw [h1.dst hin (by omega), hk.dst hin (by omega)]
theorem good_next {sts : List St} {n k q p w : Nat} {I : Nat → Nat → Prop} {G : Nat → Nat → Nat → Prop} {FL : List Nat} (hn : n ≤ 60) (hB : BsG sts n I G FL) (hk : dst (TI I G) (TE I G) q = k + 1) (h1 : dst I G p < big) (h3 : dst (TI I G) (TE I G) p + 1 = dst (TI I G) (TE I G) q) : LeastB I G p k := by
 have hbig := big_eq
 obtain ⟨j, hj⟩ := leastB_ex (Init := I) (Edge := G) (q := p) h1
 have := hj.dst (fun q p w h => (hB.inn q p w h).1) (by omega)
 obtain rfl : j = k := by omega
 exact hj
set_option maxHeartbeats 2000000 in
theorem am_Best0 (m : Mach) : Fn Try.prog 31 [mV m] (resB (bestE m) (bestW m) (bestP m)) := by
 have hbig := big_eq
 have hleast := am_Least m
 by_cases hd : disE (enD m) m = 0
 ·rw [hd] at hleast
  by_cases hl : leastV m = 1000000001
  ·have hE : bestE m = 12 := by unfold bestE; rw [if_neg (by simp [hd]), if_pos hl]
   rw [hE]
   rw [hl] at hleast
   obtain ⟨st, sts⟩ := m
   refine Fn.intro (n := 83) ⟨Try.func31, rfl, rfl, rfl, rfl⟩ (by simp [V.pure, V.has, V.hasL]) (by simp) fun w0 out => ?_
   refine AW.seq ?_
   refine AW.region ?_
   refine AL.sm rfl (sm_box 1 rfl rfl rfl rfl rfl) ?_
   refine AL.sm rfl (sm_alloc (l := [.d (.p (.int .i64 0)), .d (.p (.slice none 0 0))]) 2 inf51 rfl rfl rfl rfl) ?_
   refine AL.rp rfl rfl (rp_assign rfl rfl) ?_
   refine AL.nil ?_
   try simp only [thenS, S.put, S.newObj, setL, V.cs, List.length_cons, List.length_nil, List.take_succ_cons, List.take_zero, List.drop_succ_cons, List.drop_zero, List.drop_nil, List.nil_append, List.cons_append, List.append_nil, Nat.zero_add, Nat.reduceAdd, List.map_cons, List.map_nil, List.set_cons_zero, List.set_cons_succ, enum]
   refine AW.scope ?_
   refine AW.seq ?_
   refine AW.region ?_
   refine AL.rd rfl rfl (rd_loads_ref Try.underlying24 rfl inf24 rfl rfl rfl rfl rfl rfl) ?_
   refine AL.call (post := ?pc24) rfl (sm_call (args := [_]) ?hc24 ⟨Try.func68, rfl, rfl, rfl, rfl⟩ rfl rfl rfl rfl) ?_
   case hc24 => exact hleast
   rintro _ rfl -
   try dsimp only
   refine AL.rp rfl rfl (rp_move rfl rfl) ?_
   refine AL.rp rfl rfl (rp_extract rfl rfl rfl) ?_
   refine AL.rp rfl rfl (rp_extract rfl rfl rfl) ?_
   refine AL.rp rfl rfl (rp_assign rfl rfl) ?_
   refine AL.rp rfl rfl (rp_assign rfl rfl) ?_
   refine AL.nil ?_
   try simp only [thenS, noG, S.put, S.newObj, setL, V.cs, List.length_cons, List.length_nil, List.take_succ_cons, List.take_zero, List.drop_succ_cons, List.drop_zero, List.drop_nil, List.nil_append, List.cons_append, List.append_nil, Nat.zero_add, Nat.reduceAdd, List.map_cons, List.map_nil, List.set_cons_zero, List.set_cons_succ]
   refine AW.seq ?_
   refine AW.block ?_
   refine AW.seq ?_
   refine AW.region ?_
   refine AL.rp rfl rfl (rp_move rfl rfl) ?_
   (refine AL.rp rfl rfl (rp_neqF rfl rfl rfl (by first | assumption | omega | (dsimp only; omega))) ?_)
   refine AL.rp rfl rfl (rp_assign rfl rfl) ?_
   refine AL.nil ?_
   try simp only [thenS, noG, S.put]
   refine AW.condF rfl ?_
   refine AW.seq ?_
   refine AW.region ?_
   refine AL.rp rfl rfl (rp_move rfl rfl) ?_
   (refine AL.rp rfl rfl (rp_eqlT rfl rfl rfl (by first | assumption | omega | (dsimp only; omega))) ?_)
   refine AL.rp rfl rfl (rp_assign rfl rfl) ?_
   refine AL.nil ?_
   try simp only [thenS, noG, S.put]
   refine AW.condT rfl ?_
   refine AW.seq ?_
   refine AW.region ?_
   refine AL.rp rfl rfl (rp_build (vs := []) (zs := [.d (.p (.int .i64 0)), .d (.p (.slice none 0 0))]) pl51 inf51 rfl rfl rfl rfl) ?_
   refine AL.st rfl (st_store_any inf51 rfl rfl rfl rfl rfl rfl rfl rfl (by first | decide | (simp; done) | (simp; omega)) rfl) ?_
   refine AL.rp rfl rfl (rp_assign rfl rfl) ?_
   refine AL.nil ?_
   try simp only [thenS, noG, S.put, S.newObj, setL, V.cs, List.length_cons, List.length_nil, List.take_succ_cons, List.take_zero, List.drop_succ_cons, List.drop_zero, List.drop_nil, List.nil_append, List.cons_append, List.append_nil, Nat.zero_add, Nat.reduceAdd, List.map_cons, List.map_nil, List.set_cons_zero, List.set_cons_succ]
   refine AW.ret ?_
   exact ⟨[_, _], ⟨⟨2, 0, _, _, rfl, rfl, rfl, Try.underlying51, .inr ⟨rfl, _, _, _, _, inf51, rfl, rfl, rfl⟩⟩, rfl, trivial⟩, .inl ⟨by decide, rfl⟩, by simp [tupOf, V.pure, V.has, V.hasL]⟩
  ·have hE : bestE m = 0 := by unfold bestE; rw [if_neg (by simp [hd]), if_neg hl]
   obtain ⟨h0, _, p0, hp0, hpn0, hd0, hlv, hLB⟩ := best_ok hE
   have hP : bestP m = wayL m.states (enD m) (bsT m) ((bsT m).getD m.start.toNat 0) m.start.toNat := by unfold bestP; rw [if_pos hE]
   have hW : bestW m = leastV m := by unfold bestW; rw [if_pos hE]
   have hB := bsg_of h0 hd
   have hends := am_bestEnds m h0 hB.low
   obtain ⟨h60, h400, hst, hz⟩ := machE_zero h0
   have hD : enD m = dstL (bsI m) (bsG m) m.states.length := rfl
   have hT : bsT m = dstL (TI (bsI m) (bsG m)) (TE (bsI m) (bsG m)) m.states.length := rfl
   rw [hp0, Int.toNat_natCast, hT, hD, List.getD_eq_getElem?_getD, dstL_get hpn0, Option.getD_some] at hP
   rw [hE, hW]
   obtain ⟨P, hPP⟩ : ∃ P, bestP m = P := ⟨_, rfl⟩
   rw [hPP] at hP ⊢
   obtain ⟨W, hWW⟩ : ∃ W, leastV m = W := ⟨_, rfl⟩
   rw [hWW] at hl hleast ⊢
   clear hlv hWW hPP hE hW hD hT hd
   change Fn _ _ _ (fun v => v = .d (twD ((List.range m.states.length).map (tws (bsI m) (bsG m))))) at hends
   obtain ⟨FL, hFL⟩ : ∃ L, (enD m).map tell = L := ⟨_, rfl⟩
   rw [hFL] at hB
   clear hFL
   obtain ⟨I, hI⟩ : ∃ I, bsI m = I := ⟨_, rfl⟩
   obtain ⟨G, hG⟩ : ∃ G, bsG m = G := ⟨_, rfl⟩
   rw [hI, hG] at hB hP hends hLB
   rw [hI, hG] at hd0
   clear hI hG
   obtain ⟨st, sts⟩ := m
   simp only at h60 h400 hst hz hB hp0 hpn0 hP hends
   subst hp0
   have hal4 : ∀ x ∈ sts, x.arcs.length ≤ 400 := fun x hx => Nat.le_trans (arcN_mem sts x hx) h400
   obtain ⟨n, hn⟩ : ∃ n, sts.length = n := ⟨_, rfl⟩
   rw [hn] at h60 hst hz hB hpn0 hP hends
   have hFget := fun q (h : q < n) => tws_get (I := I) (G := G) h
   obtain ⟨F, hF⟩ : ∃ F, (List.range n).map (tws I G) = F := ⟨_, rfl⟩
   rw [hF] at hends hFget
   clear hF
   obtain ⟨DL, hDD⟩ : ∃ D, dstL I G n = D := ⟨_, rfl⟩
   obtain ⟨T, hTT⟩ : ∃ D, dstL (TI I G) (TE I G) n = D := ⟨_, rfl⟩
   have hgi := fun {p q w : Nat} {a : Ar} (hp : p < n) (hq : q < n) (ht : a.t = (p : Int)) (hw : a.w = (w : Int)) => good_iff (a := a) hB hp hq ht hw
   have hge := fun {k q : Nat} {x : St} (hq : q < n) (hx : sts[q]? = some x) (hk : LeastB I G q (k + 1)) => good_ex h60 hB hq hx hk
   rw [hDD, hTT] at hP hgi hge
   have hin := fun q p w h => (hB.inn q p w h).1
   obtain ⟨K, hK⟩ : ∃ K, dst (TI I G) (TE I G) p0 = K := ⟨_, rfl⟩
   rw [hK] at hP hLB
   have hKn := hLB.le hin
   clear hK hDD hTT
   refine Fn.intro (n := 83) ⟨Try.func31, rfl, rfl, rfl, rfl⟩ (by simp [V.pure, V.has, V.hasL]) (by simp) fun w0 out => ?_
   refine AW.seq ?_
   refine AW.region ?_
   refine AL.sm rfl (sm_box 1 rfl rfl rfl rfl rfl) ?_
   refine AL.sm rfl (sm_alloc (l := [.d (.p (.int .i64 0)), .d (.p (.slice none 0 0))]) 2 inf51 rfl rfl rfl rfl) ?_
   refine AL.rp rfl rfl (rp_assign rfl rfl) ?_
   refine AL.nil ?_
   try simp only [thenS, S.put, S.newObj, setL, V.cs, List.length_cons, List.length_nil, List.take_succ_cons, List.take_zero, List.drop_succ_cons, List.drop_zero, List.drop_nil, List.nil_append, List.cons_append, List.append_nil, Nat.zero_add, Nat.reduceAdd, List.map_cons, List.map_nil, List.set_cons_zero, List.set_cons_succ, enum]
   refine AW.scope ?_
   refine AW.seq ?_
   refine AW.region ?_
   refine AL.rd rfl rfl (rd_loads_ref Try.underlying24 rfl inf24 rfl rfl rfl rfl rfl rfl) ?_
   refine AL.call (post := ?pc25) rfl (sm_call (args := [_]) ?hc25 ⟨Try.func68, rfl, rfl, rfl, rfl⟩ rfl rfl rfl rfl) ?_
   case hc25 => exact hleast
   rintro _ rfl -
   try dsimp only
   refine AL.rp rfl rfl (rp_move rfl rfl) ?_
   refine AL.rp rfl rfl (rp_extract rfl rfl rfl) ?_
   refine AL.rp rfl rfl (rp_extract rfl rfl rfl) ?_
   refine AL.rp rfl rfl (rp_assign rfl rfl) ?_
   refine AL.rp rfl rfl (rp_assign rfl rfl) ?_
   refine AL.nil ?_
   try simp only [thenS, noG, S.put, S.newObj, setL, V.cs, List.length_cons, List.length_nil, List.take_succ_cons, List.take_zero, List.drop_succ_cons, List.drop_zero, List.drop_nil, List.nil_append, List.cons_append, List.append_nil, Nat.zero_add, Nat.reduceAdd, List.map_cons, List.map_nil, List.set_cons_zero, List.set_cons_succ]
   refine AW.seq ?_
   refine AW.block ?_
   refine AW.seq ?_
   refine AW.region ?_
   refine AL.rp rfl rfl (rp_move rfl rfl) ?_
   (refine AL.rp rfl rfl (rp_neqF rfl rfl rfl (by first | assumption | omega | (dsimp only; omega))) ?_)
   refine AL.rp rfl rfl (rp_assign rfl rfl) ?_
   refine AL.nil ?_
   try simp only [thenS, noG, S.put]
   refine AW.condF rfl ?_
   refine AW.seq ?_
   refine AW.region ?_
   refine AL.rp rfl rfl (rp_move rfl rfl) ?_
   (refine AL.rp rfl rfl (rp_eqlF rfl rfl rfl (by first | assumption | omega | (dsimp only; omega))) ?_)
   refine AL.rp rfl rfl (rp_assign rfl rfl) ?_
   refine AL.nil ?_
   try simp only [thenS, noG, S.put]
   refine AW.condF rfl ?_
   refine AW.skip ?_
   try simp only [thenS, noG]
   refine AW.seq ?_
   refine AW.region ?_
   refine AL.rd rfl rfl (rd_loads_ref Try.underlying24 rfl inf24 rfl rfl rfl rfl rfl rfl) ?_
   refine AL.call (post := ?pc26) rfl (sm_call (args := [_]) ?hc26 ⟨Try.func69, rfl, rfl, rfl, rfl⟩ rfl rfl rfl rfl) ?_
   case hc26 => exact hends
   rintro _ rfl -
   try dsimp only
   refine AL.rp rfl rfl (rp_assign rfl rfl) ?_
   refine AL.nil ?_
   try simp only [thenS, noG, S.put, S.newObj, setL, V.cs, List.length_cons, List.length_nil, List.take_succ_cons, List.take_zero, List.drop_succ_cons, List.drop_zero, List.drop_nil, List.nil_append, List.cons_append, List.append_nil, Nat.zero_add, Nat.reduceAdd, List.map_cons, List.map_nil, List.set_cons_zero, List.set_cons_succ]
   refine AW.seq ?_
   refine AW.region ?_
   refine AL.rp rfl rfl (rp_move rfl rfl) ?_
   refine AL.rp rfl rfl (rp_build (vs := [(0, _)]) (zs := [.d (.p (.int .i64 0)), .d (.p (.slice none 0 0))]) pl51 inf51 rfl rfl rfl rfl) ?_
   refine AL.sm rfl (sm_alloc (l := [.d (.p (.int .i64 0)), .d (.p (.slice none 0 0))]) 7 inf51 rfl rfl rfl rfl) ?_
   refine AL.st rfl (st_store_any inf51 rfl rfl rfl rfl rfl rfl rfl rfl (by first | decide | (simp; done) | (simp; omega)) rfl) ?_
   refine AL.nil ?_
   try simp only [thenS, noG, S.put, S.newObj, setL, V.cs, List.length_cons, List.length_nil, List.take_succ_cons, List.take_zero, List.drop_succ_cons, List.drop_zero, List.drop_nil, List.nil_append, List.cons_append, List.append_nil, Nat.zero_add, Nat.reduceAdd, List.map_cons, List.map_nil, List.set_cons_zero, List.set_cons_succ]
   refine AW.seq ?_
   refine AW.region ?_
   refine AL.rp rfl rfl (rp_field_ref Try.underlying24 rfl rfl rfl inf3 (by decide) rfl) ?_
   refine AL.rd rfl rfl (rd_load_ref Try.underlying3 rfl rfl rfl rfl rfl rfl) ?_
   refine AL.rp rfl rfl (rp_assign rfl rfl) ?_
   refine AL.nil ?_
   try simp only [thenS, noG, S.put]
   refine AW.seq ?_
   refine AW.label ?_
   try simp only [thenS, noG]
   refine AW.seq ?_
   refine AW.block ?_
   refine AW.adoptH 7 1 100 1 3 rfl rfl rfl (by simp [S.clean, V.has, V.hasL, V.cs, setL]) ?_
   refine AW.loopN (fun μ s' => ∃ (q : Nat) (acc : List Int), q < n ∧ dst I G q ≤ 1000000000 ∧ LeastB I G q μ ∧ acc ++ wayL sts DL T μ q = P ∧ acc.length + μ = K ∧ s' = ⟨83, [(1, .ref 1 0), (2, .ref 2 0), (6, .d (twD F)), (7, .ref 7 0), (8, .i q)], [(1, ⟨24, [.i p0, .d (stsD sts)], false, 0⟩), (2, ⟨51, [.i 0, .nil], false, 0⟩), (7, ⟨51, [.i W, .own 100 1 acc.length (decide (acc.length = 0))], false, 0⟩), (100, ⟨3, acc.map V.i, decide (acc.length = 0), 1⟩)], []⟩) ⟨K, _, ?_, p0, [], hpn0, hd0, hLB, by rw [List.nil_append, hP], by simp, rfl⟩ ?_
   ·exact (Less.of rfl (by repeat (first | exact trivial | refine ⟨⟨_, rfl, Wk.refl _⟩, ?_⟩ | refine ⟨⟨_, rfl, Wk.nil _ _⟩, ?_⟩ | refine ⟨⟨_, rfl, Wk.junk _⟩, ?_⟩)) (by repeat (first | exact trivial | refine ⟨rfl, ?_⟩)) rfl)
   clear hd0
   rintro μ s' ⟨q, acc, hqn, hdq, hLq, hacc, hal, rfl⟩
   have hTq := hLq.dst hin (by omega)
   have hFq := hFget q hqn
   rw [show tws I G q = (dst I G q, μ) by unfold tws; rw [if_pos (by omega), hTq]] at hFq
   obtain ⟨dq, hdqe⟩ : ∃ x, dst I G q = x := ⟨_, rfl⟩
   rw [hdqe] at hdq hFq
   cases μ with
   | zero =>
    rw [show wayL sts DL T 0 q = [] from rfl, List.append_nil] at hacc
    subst hacc
    refine AW.seq ?_
    refine AW.seq ?_
    refine AW.region ?_
    refine AL.rp rfl rfl (rp_move rfl rfl) ?_
    refine AL.rp rfl rfl (rp_move rfl rfl) ?_
    refine AL.rp rfl rfl (rp_index_map Try.underlying92 inf95 rfl rfl rfl rfl (by assumption)) ?_
    refine AL.rp rfl rfl (rp_field_ad Try.underlying95 rfl rfl rfl inf3 (by decide) rfl) ?_
    refine AL.rd rfl rfl (rd_load_ad Try.underlying3 rfl rfl rfl rfl) ?_
    (refine AL.rp rfl rfl (rp_gtrF rfl rfl rfl (by first | assumption | omega | (dsimp only; omega))) ?_)
    refine AL.nil ?_
    try simp only [thenS, noG, S.put]
    refine AW.condF rfl ?_
    refine AW.exit ?_
    try simp only [thenS, noG, inBlockS, ↓reduceIte, Nat.reduceEqDiff]
    refine AW.seq ?_
    refine AW.freezeH 7 1 8 (acc.map fun x => [D.p (.int .i64 x)]) rfl rfl rfl (by decide) rfl rfl (by simp) (by omega) (rows1 (f := fun x => D.p (.int .i64 x)) rfl) ?_
    refine AW.region ?_
    refine AL.rd rfl rfl (rd_loads_ref Try.underlying51 rfl inf51 rfl rfl rfl rfl rfl rfl) ?_
    refine AL.st rfl (st_store_any inf51 rfl rfl rfl rfl rfl rfl rfl rfl (by first | decide | (simp; done) | (simp; omega)) rfl) ?_
    refine AL.rp rfl rfl (rp_assign rfl rfl) ?_
    refine AL.nil ?_
    try simp only [thenS, noG, S.put, S.newObj, setL, V.cs, List.length_cons, List.length_nil, List.take_succ_cons, List.take_zero, List.drop_succ_cons, List.drop_zero, List.drop_nil, List.nil_append, List.cons_append, List.append_nil, Nat.zero_add, Nat.reduceAdd, List.map_cons, List.map_nil, List.set_cons_zero, List.set_cons_succ]
    refine AW.ret ?_
    exact ⟨[_, _], ⟨⟨2, 0, _, _, rfl, rfl, rfl, Try.underlying51, .inr ⟨rfl, _, _, _, _, inf51, rfl, rfl, rfl⟩⟩, rfl, trivial⟩, .inr ⟨rfl, rfl⟩, by simp [tupOf, V.pure, V.has, V.hasL]⟩
   | succ μ =>
    obtain ⟨x, hx⟩ := get_lt hn hqn
    obtain ⟨la, hla⟩ : ∃ n, x.arcs.length = n := ⟨_, rfl⟩
    have hla' := hal4 x (List.mem_of_getElem? hx)
    rw [hla] at hla'
    obtain ⟨j0, a0, hj0, ha0⟩ := hge hqn hx hLq
    have hj0l := (List.getElem?_eq_some_iff.1 hj0).1
    rw [hla] at hj0l
    have hpos : (0 : Int) < ((μ + 1 : Nat) : Int) := by omega
    refine AW.seq ?_
    refine AW.seq ?_
    refine AW.region ?_
    refine AL.rp rfl rfl (rp_move rfl rfl) ?_
    refine AL.rp rfl rfl (rp_move rfl rfl) ?_
    refine AL.rp rfl rfl (rp_index_map Try.underlying92 inf95 rfl rfl rfl rfl (by assumption)) ?_
    refine AL.rp rfl rfl (rp_field_ad Try.underlying95 rfl rfl rfl inf3 (by decide) rfl) ?_
    refine AL.rd rfl rfl (rd_load_ad Try.underlying3 rfl rfl rfl rfl) ?_
    (refine AL.rp rfl rfl (rp_gtrT rfl rfl rfl (by first | assumption | omega | (dsimp only; omega))) ?_)
    refine AL.nil ?_
    try simp only [thenS, noG, S.put]
    refine AW.condT rfl ?_
    refine AW.skip ?_
    try simp only [thenS, noG]
    refine AW.block ?_
    refine AW.seq ?_
    refine AW.seq ?_
    refine AW.region ?_
    refine AL.rp rfl rfl (rp_field_ref Try.underlying24 rfl rfl rfl inf22 (by decide) rfl) ?_
    refine AL.rd rfl rfl (rd_load_ref Try.underlying22 rfl rfl rfl rfl rfl rfl) ?_
    refine AL.rp rfl rfl (rp_move rfl rfl) ?_
    refine AL.rp rfl rfl (rp_index_map Try.underlying22 inf69 rfl rfl rfl rfl (by assumption)) ?_
    refine AL.rp rfl rfl (rp_field_ad Try.underlying69 rfl rfl rfl inf67 (by decide) rfl) ?_
    refine AL.rd rfl rfl (rd_load_ad Try.underlying67 rfl rfl rfl rfl) ?_
    refine AL.rp rfl rfl (rp_len_map Try.underlying67 rfl rfl (by assumption)) ?_
    refine AL.rp rfl rfl (rp_move rfl rfl) ?_
    refine AL.nil ?_
    try simp only [thenS, noG, S.put]
    refine AW.block ?_
    refine AW.loop (fun s' => ∃ (i : Nat), i ≤ la ∧ (∀ (j : Nat) (b : Ar), j < i → x.arcs[j]? = some b → ¬ goodA DL T q b) ∧ s' = ⟨83, [(1, .ref 1 0), (2, .ref 2 0), (6, .d (twD F)), (7, .ref 7 0), (8, .i q), (44, .d (arsD x.arcs)), (45, .i la), (46, .i i)], [(1, ⟨24, [.i p0, .d (stsD sts)], false, 0⟩), (2, ⟨51, [.i 0, .nil], false, 0⟩), (7, ⟨51, [.i W, .own 100 1 acc.length (decide (acc.length = 0))], false, 0⟩), (100, ⟨3, acc.map V.i, decide (acc.length = 0), 1⟩)], []⟩) (fun s' => la - s'.nat 46) ⟨_, ?_, 0, by omega, fun j b h => absurd h (by omega), rfl⟩ ?_
    ·exact (Less.of rfl (by repeat (first | exact trivial | refine ⟨⟨_, rfl, Wk.refl _⟩, ?_⟩ | refine ⟨⟨_, rfl, Wk.nil _ _⟩, ?_⟩ | refine ⟨⟨_, rfl, Wk.junk _⟩, ?_⟩)) (by repeat (first | exact trivial | refine ⟨rfl, ?_⟩)) rfl)
    rintro s' ⟨i, hi, hno, rfl⟩
    by_cases hil : i < la
    ·obtain ⟨y, hy⟩ := get_lt hla hil
     have hyt := (hz x (List.mem_of_getElem? hx)).2 y (List.mem_of_getElem? hy)
     have hstep := fun h => wayL_step (k := μ) hx hy h hno
     have hno1 : ¬ goodA DL T q y → ∀ (j : Nat) (b : Ar), j < i + 1 → x.arcs[j]? = some b → ¬ goodA DL T q b := fun hn j b hj hb => by
      by_cases e : j = i
      ·subst e
       rw [hy] at hb
       simp only [Option.some.injEq] at hb
       subst hb
       exact hn
      ·exact hno j b (by omega) hb
     obtain ⟨yi, yo, yw, yt⟩ := y
     simp only [arOk, decide_eq_true_eq] at hyt
     obtain ⟨p, rfl⟩ : ∃ p : Nat, yt = p := ⟨yt.toNat, by omega⟩
     obtain ⟨w, rfl⟩ : ∃ w : Nat, yw = w := ⟨yw.toNat, by omega⟩
     have hpn : p < n := by omega
     have hgood := hgi (a := ⟨yi, yo, w, p⟩) hpn hqn rfl rfl
     rw [hTq, hdqe] at hgood
     have hFp := hFget p hpn
     by_cases hpf : dst I G p < big
     ·rw [show tws I G p = (dst I G p, dst (TI I G) (TE I G) p) by unfold tws; rw [if_pos hpf]] at hFp
      have hdp := hB.low p hpf
      have hnx := fun h => good_next (p := p) (w := w) h60 hB hTq hpf h
      obtain ⟨tp, htp⟩ : ∃ x, dst (TI I G) (TE I G) p = x := ⟨_, rfl⟩
      rw [htp] at hFp hgood hnx
      have htb : tp ≤ 60 := by
       obtain ⟨j, hj⟩ := leastB_ex (Init := I) (Edge := G) (q := p) hpf
       have h1 := hj.dst hin (by omega)
       have h2 := hj.le hin
       omega
      obtain ⟨dp, hdpe⟩ : ∃ x, dst I G p = x := ⟨_, rfl⟩
      rw [hdpe] at hFp hgood hdp hpf
      have hnx2 : tp + 1 = μ + 1 → LeastB I G p μ ∧ dst I G p ≤ 1000000000 := fun h => ⟨hnx (by rw [hTq]; exact h), by rw [hdpe]; exact hdp⟩
      clear hnx htp hdpe hTq hdqe
      by_cases hs : dp + w ≤ 1000000000 ∧ tp + 1 ≤ 1000000000
      ·have ht1 : Fn Try.prog 70 [.agg [.i (w : Int), .i 1], .agg [.i (dp : Int), .i (tp : Int)]] (fun v => v = .tup [.agg [.i ((dp + w : Nat) : Int), .i ((tp + 1 : Nat) : Int)], .i 0]) := Fn.eqv (am_Times_ok w dp tp (by omega) (by omega) (by omega) (by omega)) (by rw [show ((w : Int) + dp) = ((dp + w : Nat) : Int) by omega, show (1 + (tp : Int)) = ((tp + 1 : Nat) : Int) by omega])
       by_cases hg : dp + w = dq ∧ tp + 1 = μ + 1
       ·have hcmp : ((dp + w : Nat) : Int) = (dq : Int) ∧ ((tp + 1 : Nat) : Int) = ((μ + 1 : Nat) : Int) := by omega
        have hst2 := hstep (hgood.2 ⟨hpf, by omega, hg.2⟩)
        simp only [Int.toNat_natCast] at hst2
        rw [hst2] at hacc
        clear hst2 hstep hpf
        refine AW.seq ?_
        refine AW.region ?_
        (refine AL.rp rfl rfl (rp_lssT rfl rfl rfl (by first | assumption | omega | (dsimp only; omega))) ?_)
        refine AL.nil ?_
        try simp only [thenS, noG, S.put]
        refine AW.seq ?_
        refine AW.condT rfl ?_
        refine AW.skip ?_
        try simp only [thenS, noG]
        refine AW.seq ?_
        refine AW.block ?_
        refine AW.seq ?_
        refine AW.region ?_
        refine AL.rp rfl rfl (rp_move rfl rfl) ?_
        refine AL.rp rfl rfl (rp_index_map Try.underlying67 inf79 rfl rfl rfl rfl (by assumption)) ?_
        refine AL.rd rfl rfl (rd_loads_ad Try.underlying79 rfl inf79 rfl rfl rfl rfl) ?_
        refine AL.sm rfl (sm_alloc (l := [.d (.p (.int .i64 0)), .d (.p (.int .i64 0)), .d (.p (.int .i64 0)), .d (.p (.int .i64 0))]) 10 inf79 rfl (by simp [S.clean, S.put, S.newObj, S.forget, V.has, V.hasL, junkIf, setL, V.cs, hasL_i, hasL_b, hasL_s, hasL_n, hasL_rep, hasL_flat, hasL_append, -List.map_set]) rfl rfl) ?_
        refine AL.rp rfl rfl (rp_assign rfl rfl) ?_
        refine AL.st rfl (st_store_any inf79 rfl rfl rfl rfl rfl rfl rfl rfl (by first | decide | (simp; done) | (simp; omega)) rfl) ?_
        refine AL.nil ?_
        try simp only [thenS, noG, S.put, S.newObj, setL, V.cs, List.length_cons, List.length_nil, List.take_succ_cons, List.take_zero, List.drop_succ_cons, List.drop_zero, List.drop_nil, List.nil_append, List.cons_append, List.append_nil, Nat.zero_add, Nat.reduceAdd, List.map_cons, List.map_nil, List.set_cons_zero, List.set_cons_succ]
        refine AW.seq ?_
        refine AW.draw2 (N := ?N28) [0, 1, 2, 3, 4, 5, 6, 7] 8 12 [(9, true), (10, true), (11, true), (12, false), (13, false), (14, false)] [(8, false), (9, false), (10, true), (11, true), (13, false), (14, false)] (fun _ => true) 15 (by kernel_rfl) (by kernel_rfl) rfl rfl (by kernel_rfl) ?_ ?_
        rotate_left
        refine AB1.rp rfl rfl rfl (fun _ _ h => h) (rp_field_ref Try.underlying79 rfl rfl rfl inf3 (by decide) rfl) ?_
        refine AB1.rd rfl rfl rfl (fun _ _ h => h) (rd_load_ref Try.underlying3 rfl rfl rfl rfl rfl rfl) ?_
        refine AB1.rp rfl rfl rfl (fun _ _ h => h) (rp_build (vs := [(0, _), (1, _)]) (zs := [.d (.p (.int .i64 0)), .d (.p (.int .i64 0))]) pl95 inf95 rfl rfl rfl rfl) ?_
        refine AB1.rp rfl rfl rfl (fun _ _ h => h) (rp_move rfl rfl) ?_
        refine AB1.rp rfl rfl rfl (fun _ _ h => h) (rp_field_ref Try.underlying79 rfl rfl rfl inf3 (by decide) rfl) ?_
        refine AB1.rd rfl rfl rfl (fun _ _ h => h) (rd_load_ref Try.underlying3 rfl rfl rfl rfl rfl rfl) ?_
        refine AB1.rp rfl rfl rfl (fun _ _ h => h) (rp_index_map Try.underlying92 inf95 rfl rfl rfl rfl (by assumption)) ?_
        refine AB1.rd rfl rfl rfl (fun _ _ h => h) (rd_loads_ad Try.underlying95 rfl inf95 rfl rfl rfl rfl) ?_
        refine AB1.nil ?_ ?_
        refine AD2.call (post := ?pc28) rfl rfl (sm_call (args := [_, _]) ?hc28 ⟨Try.func70, rfl, rfl, rfl, rfl⟩ rfl rfl rfl rfl) ?_
        case hc28 => exact ht1
        rintro _ rfl -
        try dsimp only
        refine AD2.rp rfl rfl rfl (fun _ _ h => h) (rp_move rfl rfl) ?_
        refine AD2.rp rfl rfl rfl (fun _ _ h => h) (rp_extract rfl rfl rfl) ?_
        refine AD2.rp rfl rfl rfl (fun _ _ h => h) (rp_extract rfl rfl rfl) ?_
        refine AD2.new rfl rfl (sg_alloc (l := [.d (.p (.int .i64 0)), .d (.p (.int .i64 0))]) 11 inf95 rfl (by simp [S.clean, S.put, S.newObj, S.forget, V.has, V.hasL, junkIf, setL, V.cs, hasL_i, hasL_b, hasL_s, hasL_n, hasL_rep, hasL_flat, hasL_append, -List.map_set]) rfl rfl) ?_
        refine AQ.st rfl rfl (st_store_anyS inf95 rfl rfl rfl rfl rfl rfl rfl rfl (by first | decide | (simp; done) | (simp; omega)) rfl) ?_
        refine AQ.rp1 rfl rfl rfl (rp_assign rfl rfl) ?_
        refine AQ.nil ?_
        show Less _ _
        exact Less.dd _
        refine AD2.new rfl rfl (sg_alloc (l := [.d (.p (.int .i64 0)), .d (.p (.int .i64 0))]) 11 inf95 rfl (by simp [S.clean, S.put, S.newObj, S.forget, V.has, V.hasL, junkIf, setL, V.cs, hasL_i, hasL_b, hasL_s, hasL_n, hasL_rep, hasL_flat, hasL_append, -List.map_set]) rfl rfl) ?_
        refine AQ.call (post := ?pc29) rfl rfl (sk_call (args := [_, _]) ?hc29 ⟨Try.func70, rfl, rfl, rfl, rfl⟩ rfl rfl rfl rfl) ?_
        case hc29 => exact ht1
        rintro _ rfl -
        try dsimp only
        refine AQ.rp1 rfl rfl rfl (rp_move rfl rfl) ?_
        refine AQ.rp rfl rfl rfl (fun _ _ h => h) (rp_extract rfl rfl rfl) ?_
        refine AQ.rp rfl rfl rfl (fun _ _ h => h) (rp_extract rfl rfl rfl) ?_
        refine AQ.st rfl rfl (st_store_anyS inf95 rfl rfl rfl rfl rfl rfl rfl rfl (by first | decide | (simp; done) | (simp; omega)) rfl) ?_
        refine AQ.rp1 rfl rfl rfl (rp_assign rfl rfl) ?_
        refine AQ.nil ?_
        show Less _ _
        (try simp only [S.put, S.newObj, setL, V.cs, List.length_cons, List.length_nil, List.take_succ_cons, List.take_zero, List.drop_succ_cons, List.drop_zero, List.drop_nil, List.nil_append, List.cons_append, List.append_nil, Nat.zero_add, Nat.reduceAdd, List.map_cons, List.map_nil, List.set_cons_zero, List.set_cons_succ])
        simp only [S.dd, ddL, List.contains_cons, List.contains_nil, Nat.reduceBEq, beq_self_eq_true, Bool.or_false, Bool.or_true, Bool.false_or, Bool.true_or, Bool.or_self, if_true, if_false, Bool.false_eq_true, ↓reduceIte]
        exact (Less.of rfl (by repeat (first | exact trivial | refine ⟨⟨_, rfl, Wk.refl _⟩, ?_⟩)) (by repeat (first | exact trivial | refine ⟨rfl, ?_⟩)) rfl)
        (try simp only [S.put, S.newObj, setL, V.cs, List.length_cons, List.length_nil, List.take_succ_cons, List.take_zero, List.drop_succ_cons, List.drop_zero, List.drop_nil, List.nil_append, List.cons_append, List.append_nil, Nat.zero_add, Nat.reduceAdd, List.map_cons, List.map_nil, List.set_cons_zero, List.set_cons_succ])
        simp only [S.dd, ddL, List.contains_cons, List.contains_nil, Nat.reduceBEq, beq_self_eq_true, Bool.or_false, Bool.or_true, Bool.false_or, Bool.true_or, Bool.or_self, if_true, if_false, Bool.false_eq_true, ↓reduceIte]
        try simp only [thenS, noG, S.put, S.newObj, setL, V.cs, List.length_cons, List.length_nil, List.take_succ_cons, List.take_zero, List.drop_succ_cons, List.drop_zero, List.drop_nil, List.nil_append, List.cons_append, List.append_nil, Nat.zero_add, Nat.reduceAdd, List.map_cons, List.map_nil, List.set_cons_zero, List.set_cons_succ]
        refine AW.seq ?_
        refine AW.draw [(0, true), (1, true), (2, true), (3, true), (4, true), (5, true), (6, true), (7, true), (8, true), (9, true)] (fun i => !([] : List Nat).contains i) 10 (by kernel_rfl) (by kernel_rfl) rfl (by kernel_rfl) ?_
        refine AD1.rp rfl rfl rfl (fun _ _ h => h) (rp_move rfl rfl) ?_
        (refine AD1.rp rfl rfl rfl (fun _ _ h => h) (rp_eqlT rfl rfl rfl (by first | assumption | omega | (dsimp only; omega))) ?_)
        refine AD1.rp rfl rfl rfl (fun _ _ h => h) (rp_move rfl rfl) ?_
        refine AD1.rdy rfl rfl rfl rfl (fun _ _ h => h) (rd_loads_ref Try.underlying95 rfl inf95 rfl rfl rfl rfl rfl rfl) ?_
        refine AD1.rpy rfl rfl rfl rfl (fun _ _ h => h) (rp_move rfl rfl) ?_
        refine AD1.rpy rfl rfl rfl rfl (fun _ _ h => h) (rp_move rfl rfl) ?_
        refine AD1.rpy rfl rfl rfl rfl (fun _ _ h => h) (rp_index_map Try.underlying92 inf95 rfl rfl rfl rfl (by assumption)) ?_
        refine AD1.rdy rfl rfl rfl rfl (fun _ _ h => h) (rd_loads_ad Try.underlying95 rfl inf95 rfl rfl rfl rfl) ?_
        refine AD1.rpy rfl rfl rfl rfl (fun _ _ h => h) (cmp_eql_95T rfl rfl rfl rfl (by first | assumption | rfl)) ?_
        refine AD1.rp rfl rfl rfl (fun _ _ h => h) (rp_pick rfl rfl rfl) ?_
        refine AD1.nil ?_
        try simp only [thenS, noG, S.put]
        refine AW.condT rfl ?_
        refine AW.seq ?_
        refine AW.region ?_
        refine AL.rp rfl rfl (rp_field_ref Try.underlying51 rfl rfl rfl inf29 (by decide) rfl) ?_
        refine AL.rd rfl rfl (rd_load_ref Try.underlying29 rfl rfl rfl rfl rfl rfl) ?_
        refine AL.rp rfl rfl (rp_move rfl rfl) ?_
        refine AL.sm rfl (sm_slice (vs := [(0, _)]) (zs := [.d (.p (.int .i64 0))]) 76 Try.underlying29 inf3 rfl rfl (by decide) (by decide) (by decide) rfl rfl rfl rfl (by simp [S.clean, S.put, S.newObj, S.forget, V.has, V.hasL, junkIf, setL, V.cs, hasL_i, hasL_b, hasL_s, hasL_n, hasL_rep, hasL_flat, hasL_append, -List.map_set]) rfl rfl) ?_
        refine AL.st rfl (st_appendF Try.underlying29 inf3 rfl (by decide) rfl rfl rfl rfl rfl rfl (by first | assumption | rfl | (simp; done)) (by simp [S.clean, S.put, S.newObj, S.forget, V.has, V.hasL, junkIf, setL, V.cs, hasL_i, hasL_b, hasL_s, hasL_n, hasL_rep, hasL_flat, hasL_append, -List.map_set]) rfl rfl rfl rfl rfl rfl rfl (by decide) (by omega) (by omega) rfl) ?_
        simp only [S.forget, S.put, S.newObj, junkIf, V.has, V.hasL, hasL_i, hasL_b, hasL_s, hasL_d, hasL_n, hasL_rep, hasL_flat, hasL_append, List.map_cons, List.map_nil, List.filter_cons, List.filter_nil, Nat.reduceBNe, Nat.reduceBEq, eq_self, bne_self_eq_false,  Bool.not_true, Bool.not_false, Bool.or_false, Bool.or_true, Bool.false_or, Bool.true_or, if_true, if_false, Bool.false_eq_true, ite_true, ite_false, ↓reduceIte, beq_self_eq_true, Nat.reduceEqDiff]
        refine AL.rp rfl rfl (rp_field_ref Try.underlying51 rfl rfl rfl inf29 (by decide) rfl) ?_
        (refine AL.st rfl (st_store inf29 rfl rfl rfl rfl rfl rfl rfl (by first | decide | (simp; done)) rfl) ?_)
        refine AL.nil ?_
        try simp only [thenS, noG, S.put, S.newObj, setL, V.cs, List.length_cons, List.length_nil, List.take_succ_cons, List.take_zero, List.drop_succ_cons, List.drop_zero, List.drop_nil, List.nil_append, List.cons_append, List.append_nil, Nat.zero_add, Nat.reduceAdd, List.map_cons, List.map_nil, List.set_cons_zero, List.set_cons_succ]
        refine AW.seq ?_
        refine AW.region ?_
        refine AL.rp rfl rfl (rp_field_ref Try.underlying79 rfl rfl rfl inf3 (by decide) rfl) ?_
        refine AL.rd rfl rfl (rd_load_ref Try.underlying3 rfl rfl rfl rfl rfl rfl) ?_
        refine AL.rp rfl rfl (rp_assign rfl rfl) ?_
        refine AL.nil ?_
        try simp only [thenS, noG, S.put]
        refine AW.exit ?_
        try simp only [thenS, noG, inBlockS, ↓reduceIte, Nat.reduceEqDiff]
        obtain ⟨hLp, hdp2⟩ := hnx2 hg.2
        refine ⟨μ, _, ?_, ⟨p, acc ++ [(i : Int)], hpn, hdp2, hLp, by rw [List.append_assoc]; exact hacc, by simp; omega, rfl⟩, by omega⟩
        simp only [List.length_append, List.length_cons, List.length_nil, Nat.zero_add, List.map_append, List.map_cons, List.map_nil]
        exact (Less.of rfl (by repeat (first | exact trivial | refine ⟨⟨_, rfl, Wk.refl _⟩, ?_⟩ | refine ⟨⟨_, rfl, Wk.nil _ _⟩, ?_⟩ | refine ⟨⟨_, rfl, Wk.junk _⟩, ?_⟩)) (by repeat (first | exact trivial | refine ⟨rfl, ?_⟩)) rfl)
       ·have hcmp : ¬ (((dp + w : Nat) : Int) = (dq : Int) ∧ ((tp + 1 : Nat) : Int) = ((μ + 1 : Nat) : Int)) := by omega
        have hno2 := hno1 (fun h => by have := hgood.1 h; omega)
        refine AW.seq ?_
        refine AW.region ?_
        (refine AL.rp rfl rfl (rp_lssT rfl rfl rfl (by first | assumption | omega | (dsimp only; omega))) ?_)
        refine AL.nil ?_
        try simp only [thenS, noG, S.put]
        refine AW.seq ?_
        refine AW.condT rfl ?_
        refine AW.skip ?_
        try simp only [thenS, noG]
        refine AW.seq ?_
        refine AW.block ?_
        refine AW.seq ?_
        refine AW.region ?_
        refine AL.rp rfl rfl (rp_move rfl rfl) ?_
        refine AL.rp rfl rfl (rp_index_map Try.underlying67 inf79 rfl rfl rfl rfl (by assumption)) ?_
        refine AL.rd rfl rfl (rd_loads_ad Try.underlying79 rfl inf79 rfl rfl rfl rfl) ?_
        refine AL.sm rfl (sm_alloc (l := [.d (.p (.int .i64 0)), .d (.p (.int .i64 0)), .d (.p (.int .i64 0)), .d (.p (.int .i64 0))]) 10 inf79 rfl (by simp [S.clean, S.put, S.newObj, S.forget, V.has, V.hasL, junkIf, setL, V.cs, hasL_i, hasL_b, hasL_s, hasL_n, hasL_rep, hasL_flat, hasL_append, -List.map_set]) rfl rfl) ?_
        refine AL.rp rfl rfl (rp_assign rfl rfl) ?_
        refine AL.st rfl (st_store_any inf79 rfl rfl rfl rfl rfl rfl rfl rfl (by first | decide | (simp; done) | (simp; omega)) rfl) ?_
        refine AL.nil ?_
        try simp only [thenS, noG, S.put, S.newObj, setL, V.cs, List.length_cons, List.length_nil, List.take_succ_cons, List.take_zero, List.drop_succ_cons, List.drop_zero, List.drop_nil, List.nil_append, List.cons_append, List.append_nil, Nat.zero_add, Nat.reduceAdd, List.map_cons, List.map_nil, List.set_cons_zero, List.set_cons_succ]
        refine AW.seq ?_
        refine AW.draw2 (N := ?N31) [0, 1, 2, 3, 4, 5, 6, 7] 8 12 [(9, true), (10, true), (11, true), (12, false), (13, false), (14, false)] [(8, false), (9, false), (10, true), (11, true), (13, false), (14, false)] (fun _ => true) 15 (by kernel_rfl) (by kernel_rfl) rfl rfl (by kernel_rfl) ?_ ?_
        rotate_left
        refine AB1.rp rfl rfl rfl (fun _ _ h => h) (rp_field_ref Try.underlying79 rfl rfl rfl inf3 (by decide) rfl) ?_
        refine AB1.rd rfl rfl rfl (fun _ _ h => h) (rd_load_ref Try.underlying3 rfl rfl rfl rfl rfl rfl) ?_
        refine AB1.rp rfl rfl rfl (fun _ _ h => h) (rp_build (vs := [(0, _), (1, _)]) (zs := [.d (.p (.int .i64 0)), .d (.p (.int .i64 0))]) pl95 inf95 rfl rfl rfl rfl) ?_
        refine AB1.rp rfl rfl rfl (fun _ _ h => h) (rp_move rfl rfl) ?_
        refine AB1.rp rfl rfl rfl (fun _ _ h => h) (rp_field_ref Try.underlying79 rfl rfl rfl inf3 (by decide) rfl) ?_
        refine AB1.rd rfl rfl rfl (fun _ _ h => h) (rd_load_ref Try.underlying3 rfl rfl rfl rfl rfl rfl) ?_
        refine AB1.rp rfl rfl rfl (fun _ _ h => h) (rp_index_map Try.underlying92 inf95 rfl rfl rfl rfl (by assumption)) ?_
        refine AB1.rd rfl rfl rfl (fun _ _ h => h) (rd_loads_ad Try.underlying95 rfl inf95 rfl rfl rfl rfl) ?_
        refine AB1.nil ?_ ?_
        refine AD2.call (post := ?pc31) rfl rfl (sm_call (args := [_, _]) ?hc31 ⟨Try.func70, rfl, rfl, rfl, rfl⟩ rfl rfl rfl rfl) ?_
        case hc31 => exact ht1
        rintro _ rfl -
        try dsimp only
        refine AD2.rp rfl rfl rfl (fun _ _ h => h) (rp_move rfl rfl) ?_
        refine AD2.rp rfl rfl rfl (fun _ _ h => h) (rp_extract rfl rfl rfl) ?_
        refine AD2.rp rfl rfl rfl (fun _ _ h => h) (rp_extract rfl rfl rfl) ?_
        refine AD2.new rfl rfl (sg_alloc (l := [.d (.p (.int .i64 0)), .d (.p (.int .i64 0))]) 11 inf95 rfl (by simp [S.clean, S.put, S.newObj, S.forget, V.has, V.hasL, junkIf, setL, V.cs, hasL_i, hasL_b, hasL_s, hasL_n, hasL_rep, hasL_flat, hasL_append, -List.map_set]) rfl rfl) ?_
        refine AQ.st rfl rfl (st_store_anyS inf95 rfl rfl rfl rfl rfl rfl rfl rfl (by first | decide | (simp; done) | (simp; omega)) rfl) ?_
        refine AQ.rp1 rfl rfl rfl (rp_assign rfl rfl) ?_
        refine AQ.nil ?_
        show Less _ _
        exact Less.dd _
        refine AD2.new rfl rfl (sg_alloc (l := [.d (.p (.int .i64 0)), .d (.p (.int .i64 0))]) 11 inf95 rfl (by simp [S.clean, S.put, S.newObj, S.forget, V.has, V.hasL, junkIf, setL, V.cs, hasL_i, hasL_b, hasL_s, hasL_n, hasL_rep, hasL_flat, hasL_append, -List.map_set]) rfl rfl) ?_
        refine AQ.call (post := ?pc32) rfl rfl (sk_call (args := [_, _]) ?hc32 ⟨Try.func70, rfl, rfl, rfl, rfl⟩ rfl rfl rfl rfl) ?_
        case hc32 => exact ht1
        rintro _ rfl -
        try dsimp only
        refine AQ.rp1 rfl rfl rfl (rp_move rfl rfl) ?_
        refine AQ.rp rfl rfl rfl (fun _ _ h => h) (rp_extract rfl rfl rfl) ?_
        refine AQ.rp rfl rfl rfl (fun _ _ h => h) (rp_extract rfl rfl rfl) ?_
        refine AQ.st rfl rfl (st_store_anyS inf95 rfl rfl rfl rfl rfl rfl rfl rfl (by first | decide | (simp; done) | (simp; omega)) rfl) ?_
        refine AQ.rp1 rfl rfl rfl (rp_assign rfl rfl) ?_
        refine AQ.nil ?_
        show Less _ _
        (try simp only [S.put, S.newObj, setL, V.cs, List.length_cons, List.length_nil, List.take_succ_cons, List.take_zero, List.drop_succ_cons, List.drop_zero, List.drop_nil, List.nil_append, List.cons_append, List.append_nil, Nat.zero_add, Nat.reduceAdd, List.map_cons, List.map_nil, List.set_cons_zero, List.set_cons_succ])
        simp only [S.dd, ddL, List.contains_cons, List.contains_nil, Nat.reduceBEq, beq_self_eq_true, Bool.or_false, Bool.or_true, Bool.false_or, Bool.true_or, Bool.or_self, if_true, if_false, Bool.false_eq_true, ↓reduceIte]
        exact (Less.of rfl (by repeat (first | exact trivial | refine ⟨⟨_, rfl, Wk.refl _⟩, ?_⟩)) (by repeat (first | exact trivial | refine ⟨rfl, ?_⟩)) rfl)
        (try simp only [S.put, S.newObj, setL, V.cs, List.length_cons, List.length_nil, List.take_succ_cons, List.take_zero, List.drop_succ_cons, List.drop_zero, List.drop_nil, List.nil_append, List.cons_append, List.append_nil, Nat.zero_add, Nat.reduceAdd, List.map_cons, List.map_nil, List.set_cons_zero, List.set_cons_succ])
        simp only [S.dd, ddL, List.contains_cons, List.contains_nil, Nat.reduceBEq, beq_self_eq_true, Bool.or_false, Bool.or_true, Bool.false_or, Bool.true_or, Bool.or_self, if_true, if_false, Bool.false_eq_true, ↓reduceIte]
        try simp only [thenS, noG, S.put, S.newObj, setL, V.cs, List.length_cons, List.length_nil, List.take_succ_cons, List.take_zero, List.drop_succ_cons, List.drop_zero, List.drop_nil, List.nil_append, List.cons_append, List.append_nil, Nat.zero_add, Nat.reduceAdd, List.map_cons, List.map_nil, List.set_cons_zero, List.set_cons_succ]
        refine AW.seq ?_
        refine AW.draw [(0, true), (1, true), (2, true), (3, true), (4, true), (5, true), (6, true), (7, true), (8, true), (9, true)] (fun i => !([] : List Nat).contains i) 10 (by kernel_rfl) (by kernel_rfl) rfl (by kernel_rfl) ?_
        refine AD1.rp rfl rfl rfl (fun _ _ h => h) (rp_move rfl rfl) ?_
        (refine AD1.rp rfl rfl rfl (fun _ _ h => h) (rp_eqlT rfl rfl rfl (by first | assumption | omega | (dsimp only; omega))) ?_)
        refine AD1.rp rfl rfl rfl (fun _ _ h => h) (rp_move rfl rfl) ?_
        refine AD1.rdy rfl rfl rfl rfl (fun _ _ h => h) (rd_loads_ref Try.underlying95 rfl inf95 rfl rfl rfl rfl rfl rfl) ?_
        refine AD1.rpy rfl rfl rfl rfl (fun _ _ h => h) (rp_move rfl rfl) ?_
        refine AD1.rpy rfl rfl rfl rfl (fun _ _ h => h) (rp_move rfl rfl) ?_
        refine AD1.rpy rfl rfl rfl rfl (fun _ _ h => h) (rp_index_map Try.underlying92 inf95 rfl rfl rfl rfl (by assumption)) ?_
        refine AD1.rdy rfl rfl rfl rfl (fun _ _ h => h) (rd_loads_ad Try.underlying95 rfl inf95 rfl rfl rfl rfl) ?_
        refine AD1.rpy rfl rfl rfl rfl (fun _ _ h => h) (cmp_eql_95F rfl rfl rfl rfl (by first | assumption | rfl)) ?_
        refine AD1.rp rfl rfl rfl (fun _ _ h => h) (rp_pick rfl rfl rfl) ?_
        refine AD1.nil ?_
        try simp only [thenS, noG, S.put]
        refine AW.condF rfl ?_
        refine AW.skip ?_
        try simp only [thenS, noG]
        refine AW.region ?_
        refine AL.rp rfl rfl (rp_add rfl rfl rfl (by first | omega | (dsimp only; omega))) ?_
        refine AL.rp rfl rfl (rp_move rfl rfl) ?_
        refine AL.nil ?_
        try simp only [thenS, noG, S.put]
        refine ⟨_, ?_, ⟨i + 1, by omega, hno2, rfl⟩, ?_⟩
        ·exact (Less.of rfl (by repeat (first | exact trivial | refine ⟨⟨_, rfl, Wk.refl _⟩, ?_⟩ | refine ⟨⟨_, rfl, Wk.nil _ _⟩, ?_⟩ | refine ⟨⟨_, rfl, Wk.junk _⟩, ?_⟩)) (by repeat (first | exact trivial | refine ⟨rfl, ?_⟩)) rfl)
        ·simp [S.nat, fnd]; omega
      ·have ht1 := am_Times_over (w : Int) dp tp (by omega) (by omega) (by omega) (by omega)
       have hno2 := hno1 (fun h => by have := hgood.1 h; omega)
       refine AW.seq ?_
       refine AW.region ?_
       (refine AL.rp rfl rfl (rp_lssT rfl rfl rfl (by first | assumption | omega | (dsimp only; omega))) ?_)
       refine AL.nil ?_
       try simp only [thenS, noG, S.put]
       refine AW.seq ?_
       refine AW.condT rfl ?_
       refine AW.skip ?_
       try simp only [thenS, noG]
       refine AW.seq ?_
       refine AW.block ?_
       refine AW.seq ?_
       refine AW.region ?_
       refine AL.rp rfl rfl (rp_move rfl rfl) ?_
       refine AL.rp rfl rfl (rp_index_map Try.underlying67 inf79 rfl rfl rfl rfl (by assumption)) ?_
       refine AL.rd rfl rfl (rd_loads_ad Try.underlying79 rfl inf79 rfl rfl rfl rfl) ?_
       refine AL.sm rfl (sm_alloc (l := [.d (.p (.int .i64 0)), .d (.p (.int .i64 0)), .d (.p (.int .i64 0)), .d (.p (.int .i64 0))]) 10 inf79 rfl (by simp [S.clean, S.put, S.newObj, S.forget, V.has, V.hasL, junkIf, setL, V.cs, hasL_i, hasL_b, hasL_s, hasL_n, hasL_rep, hasL_flat, hasL_append, -List.map_set]) rfl rfl) ?_
       refine AL.rp rfl rfl (rp_assign rfl rfl) ?_
       refine AL.st rfl (st_store_any inf79 rfl rfl rfl rfl rfl rfl rfl rfl (by first | decide | (simp; done) | (simp; omega)) rfl) ?_
       refine AL.nil ?_
       try simp only [thenS, noG, S.put, S.newObj, setL, V.cs, List.length_cons, List.length_nil, List.take_succ_cons, List.take_zero, List.drop_succ_cons, List.drop_zero, List.drop_nil, List.nil_append, List.cons_append, List.append_nil, Nat.zero_add, Nat.reduceAdd, List.map_cons, List.map_nil, List.set_cons_zero, List.set_cons_succ]
       refine AW.seq ?_
       refine AW.draw2 (N := ?N34) [0, 1, 2, 3, 4, 5, 6, 7] 8 12 [(9, true), (10, true), (11, true), (12, false), (13, false), (14, false)] [(8, false), (9, false), (10, true), (11, true), (13, false), (14, false)] (fun _ => true) 15 (by kernel_rfl) (by kernel_rfl) rfl rfl (by kernel_rfl) ?_ ?_
       rotate_left
       refine AB1.rp rfl rfl rfl (fun _ _ h => h) (rp_field_ref Try.underlying79 rfl rfl rfl inf3 (by decide) rfl) ?_
       refine AB1.rd rfl rfl rfl (fun _ _ h => h) (rd_load_ref Try.underlying3 rfl rfl rfl rfl rfl rfl) ?_
       refine AB1.rp rfl rfl rfl (fun _ _ h => h) (rp_build (vs := [(0, _), (1, _)]) (zs := [.d (.p (.int .i64 0)), .d (.p (.int .i64 0))]) pl95 inf95 rfl rfl rfl rfl) ?_
       refine AB1.rp rfl rfl rfl (fun _ _ h => h) (rp_move rfl rfl) ?_
       refine AB1.rp rfl rfl rfl (fun _ _ h => h) (rp_field_ref Try.underlying79 rfl rfl rfl inf3 (by decide) rfl) ?_
       refine AB1.rd rfl rfl rfl (fun _ _ h => h) (rd_load_ref Try.underlying3 rfl rfl rfl rfl rfl rfl) ?_
       refine AB1.rp rfl rfl rfl (fun _ _ h => h) (rp_index_map Try.underlying92 inf95 rfl rfl rfl rfl (by assumption)) ?_
       refine AB1.rd rfl rfl rfl (fun _ _ h => h) (rd_loads_ad Try.underlying95 rfl inf95 rfl rfl rfl rfl) ?_
       refine AB1.nil ?_ ?_
       refine AD2.call (post := ?pc34) rfl rfl (sm_call (args := [_, _]) ?hc34 ⟨Try.func70, rfl, rfl, rfl, rfl⟩ rfl rfl rfl rfl) ?_
       case hc34 => exact ht1
       rintro _ rfl -
       try dsimp only
       refine AD2.rp rfl rfl rfl (fun _ _ h => h) (rp_move rfl rfl) ?_
       refine AD2.rp rfl rfl rfl (fun _ _ h => h) (rp_extract rfl rfl rfl) ?_
       refine AD2.rp rfl rfl rfl (fun _ _ h => h) (rp_extract rfl rfl rfl) ?_
       refine AD2.new rfl rfl (sg_alloc (l := [.d (.p (.int .i64 0)), .d (.p (.int .i64 0))]) 11 inf95 rfl (by simp [S.clean, S.put, S.newObj, S.forget, V.has, V.hasL, junkIf, setL, V.cs, hasL_i, hasL_b, hasL_s, hasL_n, hasL_rep, hasL_flat, hasL_append, -List.map_set]) rfl rfl) ?_
       refine AQ.st rfl rfl (st_store_anyS inf95 rfl rfl rfl rfl rfl rfl rfl rfl (by first | decide | (simp; done) | (simp; omega)) rfl) ?_
       refine AQ.rp1 rfl rfl rfl (rp_assign rfl rfl) ?_
       refine AQ.nil ?_
       show Less _ _
       exact Less.dd _
       refine AD2.new rfl rfl (sg_alloc (l := [.d (.p (.int .i64 0)), .d (.p (.int .i64 0))]) 11 inf95 rfl (by simp [S.clean, S.put, S.newObj, S.forget, V.has, V.hasL, junkIf, setL, V.cs, hasL_i, hasL_b, hasL_s, hasL_n, hasL_rep, hasL_flat, hasL_append, -List.map_set]) rfl rfl) ?_
       refine AQ.call (post := ?pc35) rfl rfl (sk_call (args := [_, _]) ?hc35 ⟨Try.func70, rfl, rfl, rfl, rfl⟩ rfl rfl rfl rfl) ?_
       case hc35 => exact ht1
       rintro _ rfl -
       try dsimp only
       refine AQ.rp1 rfl rfl rfl (rp_move rfl rfl) ?_
       refine AQ.rp rfl rfl rfl (fun _ _ h => h) (rp_extract rfl rfl rfl) ?_
       refine AQ.rp rfl rfl rfl (fun _ _ h => h) (rp_extract rfl rfl rfl) ?_
       refine AQ.st rfl rfl (st_store_anyS inf95 rfl rfl rfl rfl rfl rfl rfl rfl (by first | decide | (simp; done) | (simp; omega)) rfl) ?_
       refine AQ.rp1 rfl rfl rfl (rp_assign rfl rfl) ?_
       refine AQ.nil ?_
       show Less _ _
       (try simp only [S.put, S.newObj, setL, V.cs, List.length_cons, List.length_nil, List.take_succ_cons, List.take_zero, List.drop_succ_cons, List.drop_zero, List.drop_nil, List.nil_append, List.cons_append, List.append_nil, Nat.zero_add, Nat.reduceAdd, List.map_cons, List.map_nil, List.set_cons_zero, List.set_cons_succ])
       simp only [S.dd, ddL, List.contains_cons, List.contains_nil, Nat.reduceBEq, beq_self_eq_true, Bool.or_false, Bool.or_true, Bool.false_or, Bool.true_or, Bool.or_self, if_true, if_false, Bool.false_eq_true, ↓reduceIte]
       exact (Less.of rfl (by repeat (first | exact trivial | refine ⟨⟨_, rfl, Wk.refl _⟩, ?_⟩)) (by repeat (first | exact trivial | refine ⟨rfl, ?_⟩)) rfl)
       (try simp only [S.put, S.newObj, setL, V.cs, List.length_cons, List.length_nil, List.take_succ_cons, List.take_zero, List.drop_succ_cons, List.drop_zero, List.drop_nil, List.nil_append, List.cons_append, List.append_nil, Nat.zero_add, Nat.reduceAdd, List.map_cons, List.map_nil, List.set_cons_zero, List.set_cons_succ])
       simp only [S.dd, ddL, List.contains_cons, List.contains_nil, Nat.reduceBEq, beq_self_eq_true, Bool.or_false, Bool.or_true, Bool.false_or, Bool.true_or, Bool.or_self, if_true, if_false, Bool.false_eq_true, ↓reduceIte]
       try simp only [thenS, noG, S.put, S.newObj, setL, V.cs, List.length_cons, List.length_nil, List.take_succ_cons, List.take_zero, List.drop_succ_cons, List.drop_zero, List.drop_nil, List.nil_append, List.cons_append, List.append_nil, Nat.zero_add, Nat.reduceAdd, List.map_cons, List.map_nil, List.set_cons_zero, List.set_cons_succ]
       refine AW.seq ?_
       refine AW.draw [(0, true), (1, true), (2, true), (3, true), (4, true), (5, true), (6, true), (7, true), (8, true), (9, true)] (fun i => !([] : List Nat).contains i) 10 (by kernel_rfl) (by kernel_rfl) rfl (by kernel_rfl) ?_
       refine AD1.rp rfl rfl rfl (fun _ _ h => h) (rp_move rfl rfl) ?_
       (refine AD1.rp rfl rfl rfl (fun _ _ h => h) (rp_eqlF rfl rfl rfl (by first | assumption | omega | (dsimp only; omega))) ?_)
       refine AD1.rp rfl rfl rfl (fun _ _ h => h) (rp_move rfl rfl) ?_
       refine AD1.noV rfl rfl rfl rfl rfl (fun _ _ h => h) ?_
       refine AD1.noV rfl rfl rfl rfl rfl (fun _ _ h => h) ?_
       refine AD1.noV rfl rfl rfl rfl rfl (fun _ _ h => h) ?_
       refine AD1.noV rfl rfl rfl rfl rfl (fun _ _ h => h) ?_
       refine AD1.noV rfl rfl rfl rfl rfl (fun _ _ h => h) ?_
       refine AD1.noV rfl rfl rfl rfl rfl (fun _ _ h => h) ?_
       refine AD1.rp rfl rfl rfl (fun _ _ h => h) (rp_pick rfl rfl rfl) ?_
       refine AD1.nil ?_
       try simp only [thenS, noG, S.put]
       refine AW.condF rfl ?_
       refine AW.skip ?_
       try simp only [thenS, noG]
       refine AW.region ?_
       refine AL.rp rfl rfl (rp_add rfl rfl rfl (by first | omega | (dsimp only; omega))) ?_
       refine AL.rp rfl rfl (rp_move rfl rfl) ?_
       refine AL.nil ?_
       try simp only [thenS, noG, S.put]
       refine ⟨_, ?_, ⟨i + 1, by omega, hno2, rfl⟩, ?_⟩
       ·exact (Less.of rfl (by repeat (first | exact trivial | refine ⟨⟨_, rfl, Wk.refl _⟩, ?_⟩ | refine ⟨⟨_, rfl, Wk.nil _ _⟩, ?_⟩ | refine ⟨⟨_, rfl, Wk.junk _⟩, ?_⟩)) (by repeat (first | exact trivial | refine ⟨rfl, ?_⟩)) rfl)
       ·simp [S.nat, fnd]; omega
     ·rw [show tws I G p = (inf, inf) by unfold tws; rw [if_neg hpf]] at hFp
      have ht1 := am_Times_none (w : Int) (by omega)
      have hcmp : ¬ ((1000000001 : Int) = (dq : Int) ∧ (1000000001 : Int) = ((μ + 1 : Nat) : Int)) := by omega
      have hno2 := hno1 (fun h => hpf (hgood.1 h).1)
      clear hTq hdqe hpf
      refine AW.seq ?_
      refine AW.region ?_
      (refine AL.rp rfl rfl (rp_lssT rfl rfl rfl (by first | assumption | omega | (dsimp only; omega))) ?_)
      refine AL.nil ?_
      try simp only [thenS, noG, S.put]
      refine AW.seq ?_
      refine AW.condT rfl ?_
      refine AW.skip ?_
      try simp only [thenS, noG]
      refine AW.seq ?_
      refine AW.block ?_
      refine AW.seq ?_
      refine AW.region ?_
      refine AL.rp rfl rfl (rp_move rfl rfl) ?_
      refine AL.rp rfl rfl (rp_index_map Try.underlying67 inf79 rfl rfl rfl rfl (by assumption)) ?_
      refine AL.rd rfl rfl (rd_loads_ad Try.underlying79 rfl inf79 rfl rfl rfl rfl) ?_
      refine AL.sm rfl (sm_alloc (l := [.d (.p (.int .i64 0)), .d (.p (.int .i64 0)), .d (.p (.int .i64 0)), .d (.p (.int .i64 0))]) 10 inf79 rfl (by simp [S.clean, S.put, S.newObj, S.forget, V.has, V.hasL, junkIf, setL, V.cs, hasL_i, hasL_b, hasL_s, hasL_n, hasL_rep, hasL_flat, hasL_append, -List.map_set]) rfl rfl) ?_
      refine AL.rp rfl rfl (rp_assign rfl rfl) ?_
      refine AL.st rfl (st_store_any inf79 rfl rfl rfl rfl rfl rfl rfl rfl (by first | decide | (simp; done) | (simp; omega)) rfl) ?_
      refine AL.nil ?_
      try simp only [thenS, noG, S.put, S.newObj, setL, V.cs, List.length_cons, List.length_nil, List.take_succ_cons, List.take_zero, List.drop_succ_cons, List.drop_zero, List.drop_nil, List.nil_append, List.cons_append, List.append_nil, Nat.zero_add, Nat.reduceAdd, List.map_cons, List.map_nil, List.set_cons_zero, List.set_cons_succ]
      refine AW.seq ?_
      refine AW.draw2 (N := ?N37) [0, 1, 2, 3, 4, 5, 6, 7] 8 12 [(9, true), (10, true), (11, true), (12, false), (13, false), (14, false)] [(8, false), (9, false), (10, true), (11, true), (13, false), (14, false)] (fun _ => true) 15 (by kernel_rfl) (by kernel_rfl) rfl rfl (by kernel_rfl) ?_ ?_
      rotate_left
      refine AB1.rp rfl rfl rfl (fun _ _ h => h) (rp_field_ref Try.underlying79 rfl rfl rfl inf3 (by decide) rfl) ?_
      refine AB1.rd rfl rfl rfl (fun _ _ h => h) (rd_load_ref Try.underlying3 rfl rfl rfl rfl rfl rfl) ?_
      refine AB1.rp rfl rfl rfl (fun _ _ h => h) (rp_build (vs := [(0, _), (1, _)]) (zs := [.d (.p (.int .i64 0)), .d (.p (.int .i64 0))]) pl95 inf95 rfl rfl rfl rfl) ?_
      refine AB1.rp rfl rfl rfl (fun _ _ h => h) (rp_move rfl rfl) ?_
      refine AB1.rp rfl rfl rfl (fun _ _ h => h) (rp_field_ref Try.underlying79 rfl rfl rfl inf3 (by decide) rfl) ?_
      refine AB1.rd rfl rfl rfl (fun _ _ h => h) (rd_load_ref Try.underlying3 rfl rfl rfl rfl rfl rfl) ?_
      refine AB1.rp rfl rfl rfl (fun _ _ h => h) (rp_index_map Try.underlying92 inf95 rfl rfl rfl rfl (by assumption)) ?_
      refine AB1.rd rfl rfl rfl (fun _ _ h => h) (rd_loads_ad Try.underlying95 rfl inf95 rfl rfl rfl rfl) ?_
      refine AB1.nil ?_ ?_
      refine AD2.call (post := ?pc37) rfl rfl (sm_call (args := [_, _]) ?hc37 ⟨Try.func70, rfl, rfl, rfl, rfl⟩ rfl rfl rfl rfl) ?_
      case hc37 => exact ht1
      rintro _ rfl -
      try dsimp only
      refine AD2.rp rfl rfl rfl (fun _ _ h => h) (rp_move rfl rfl) ?_
      refine AD2.rp rfl rfl rfl (fun _ _ h => h) (rp_extract rfl rfl rfl) ?_
      refine AD2.rp rfl rfl rfl (fun _ _ h => h) (rp_extract rfl rfl rfl) ?_
      refine AD2.new rfl rfl (sg_alloc (l := [.d (.p (.int .i64 0)), .d (.p (.int .i64 0))]) 11 inf95 rfl (by simp [S.clean, S.put, S.newObj, S.forget, V.has, V.hasL, junkIf, setL, V.cs, hasL_i, hasL_b, hasL_s, hasL_n, hasL_rep, hasL_flat, hasL_append, -List.map_set]) rfl rfl) ?_
      refine AQ.st rfl rfl (st_store_anyS inf95 rfl rfl rfl rfl rfl rfl rfl rfl (by first | decide | (simp; done) | (simp; omega)) rfl) ?_
      refine AQ.rp1 rfl rfl rfl (rp_assign rfl rfl) ?_
      refine AQ.nil ?_
      show Less _ _
      exact Less.dd _
      refine AD2.new rfl rfl (sg_alloc (l := [.d (.p (.int .i64 0)), .d (.p (.int .i64 0))]) 11 inf95 rfl (by simp [S.clean, S.put, S.newObj, S.forget, V.has, V.hasL, junkIf, setL, V.cs, hasL_i, hasL_b, hasL_s, hasL_n, hasL_rep, hasL_flat, hasL_append, -List.map_set]) rfl rfl) ?_
      refine AQ.call (post := ?pc38) rfl rfl (sk_call (args := [_, _]) ?hc38 ⟨Try.func70, rfl, rfl, rfl, rfl⟩ rfl rfl rfl rfl) ?_
      case hc38 => exact ht1
      rintro _ rfl -
      try dsimp only
      refine AQ.rp1 rfl rfl rfl (rp_move rfl rfl) ?_
      refine AQ.rp rfl rfl rfl (fun _ _ h => h) (rp_extract rfl rfl rfl) ?_
      refine AQ.rp rfl rfl rfl (fun _ _ h => h) (rp_extract rfl rfl rfl) ?_
      refine AQ.st rfl rfl (st_store_anyS inf95 rfl rfl rfl rfl rfl rfl rfl rfl (by first | decide | (simp; done) | (simp; omega)) rfl) ?_
      refine AQ.rp1 rfl rfl rfl (rp_assign rfl rfl) ?_
      refine AQ.nil ?_
      show Less _ _
      (try simp only [S.put, S.newObj, setL, V.cs, List.length_cons, List.length_nil, List.take_succ_cons, List.take_zero, List.drop_succ_cons, List.drop_zero, List.drop_nil, List.nil_append, List.cons_append, List.append_nil, Nat.zero_add, Nat.reduceAdd, List.map_cons, List.map_nil, List.set_cons_zero, List.set_cons_succ])
      simp only [S.dd, ddL, List.contains_cons, List.contains_nil, Nat.reduceBEq, beq_self_eq_true, Bool.or_false, Bool.or_true, Bool.false_or, Bool.true_or, Bool.or_self, if_true, if_false, Bool.false_eq_true, ↓reduceIte]
      exact (Less.of rfl (by repeat (first | exact trivial | refine ⟨⟨_, rfl, Wk.refl _⟩, ?_⟩)) (by repeat (first | exact trivial | refine ⟨rfl, ?_⟩)) rfl)
      (try simp only [S.put, S.newObj, setL, V.cs, List.length_cons, List.length_nil, List.take_succ_cons, List.take_zero, List.drop_succ_cons, List.drop_zero, List.drop_nil, List.nil_append, List.cons_append, List.append_nil, Nat.zero_add, Nat.reduceAdd, List.map_cons, List.map_nil, List.set_cons_zero, List.set_cons_succ])
      simp only [S.dd, ddL, List.contains_cons, List.contains_nil, Nat.reduceBEq, beq_self_eq_true, Bool.or_false, Bool.or_true, Bool.false_or, Bool.true_or, Bool.or_self, if_true, if_false, Bool.false_eq_true, ↓reduceIte]
      try simp only [thenS, noG, S.put, S.newObj, setL, V.cs, List.length_cons, List.length_nil, List.take_succ_cons, List.take_zero, List.drop_succ_cons, List.drop_zero, List.drop_nil, List.nil_append, List.cons_append, List.append_nil, Nat.zero_add, Nat.reduceAdd, List.map_cons, List.map_nil, List.set_cons_zero, List.set_cons_succ]
      refine AW.seq ?_
      refine AW.draw [(0, true), (1, true), (2, true), (3, true), (4, true), (5, true), (6, true), (7, true), (8, true), (9, true)] (fun i => !([] : List Nat).contains i) 10 (by kernel_rfl) (by kernel_rfl) rfl (by kernel_rfl) ?_
      refine AD1.rp rfl rfl rfl (fun _ _ h => h) (rp_move rfl rfl) ?_
      (refine AD1.rp rfl rfl rfl (fun _ _ h => h) (rp_eqlT rfl rfl rfl (by first | assumption | omega | (dsimp only; omega))) ?_)
      refine AD1.rp rfl rfl rfl (fun _ _ h => h) (rp_move rfl rfl) ?_
      refine AD1.rdy rfl rfl rfl rfl (fun _ _ h => h) (rd_loads_ref Try.underlying95 rfl inf95 rfl rfl rfl rfl rfl rfl) ?_
      refine AD1.rpy rfl rfl rfl rfl (fun _ _ h => h) (rp_move rfl rfl) ?_
      refine AD1.rpy rfl rfl rfl rfl (fun _ _ h => h) (rp_move rfl rfl) ?_
      refine AD1.rpy rfl rfl rfl rfl (fun _ _ h => h) (rp_index_map Try.underlying92 inf95 rfl rfl rfl rfl (by assumption)) ?_
      refine AD1.rdy rfl rfl rfl rfl (fun _ _ h => h) (rd_loads_ad Try.underlying95 rfl inf95 rfl rfl rfl rfl) ?_
      refine AD1.rpy rfl rfl rfl rfl (fun _ _ h => h) (cmp_eql_95F rfl rfl rfl rfl (by first | assumption | rfl)) ?_
      refine AD1.rp rfl rfl rfl (fun _ _ h => h) (rp_pick rfl rfl rfl) ?_
      refine AD1.nil ?_
      try simp only [thenS, noG, S.put]
      refine AW.condF rfl ?_
      refine AW.skip ?_
      try simp only [thenS, noG]
      refine AW.region ?_
      refine AL.rp rfl rfl (rp_add rfl rfl rfl (by first | omega | (dsimp only; omega))) ?_
      refine AL.rp rfl rfl (rp_move rfl rfl) ?_
      refine AL.nil ?_
      try simp only [thenS, noG, S.put]
      refine ⟨_, ?_, ⟨i + 1, by omega, hno2, rfl⟩, ?_⟩
      ·exact (Less.of rfl (by repeat (first | exact trivial | refine ⟨⟨_, rfl, Wk.refl _⟩, ?_⟩ | refine ⟨⟨_, rfl, Wk.nil _ _⟩, ?_⟩ | refine ⟨⟨_, rfl, Wk.junk _⟩, ?_⟩)) (by repeat (first | exact trivial | refine ⟨rfl, ?_⟩)) rfl)
      ·simp [S.nat, fnd]; omega
    ·exact absurd ha0 (hno j0 a0 (by omega) hj0)
 ·have hE : bestE m = disE (enD m) m := by unfold bestE; rw [if_pos hd]
  rw [hE]
  obtain ⟨st, sts⟩ := m
  obtain ⟨e, he⟩ : ∃ e, disE (enD ⟨st, sts⟩) ⟨st, sts⟩ = e := ⟨_, rfl⟩
  rw [he] at hd hleast ⊢
  refine Fn.intro (n := 83) ⟨Try.func31, rfl, rfl, rfl, rfl⟩ (by simp [V.pure, V.has, V.hasL]) (by simp) fun w0 out => ?_
  refine AW.seq ?_
  refine AW.region ?_
  refine AL.sm rfl (sm_box 1 rfl rfl rfl rfl rfl) ?_
  refine AL.sm rfl (sm_alloc (l := [.d (.p (.int .i64 0)), .d (.p (.slice none 0 0))]) 2 inf51 rfl rfl rfl rfl) ?_
  refine AL.rp rfl rfl (rp_assign rfl rfl) ?_
  refine AL.nil ?_
  try simp only [thenS, S.put, S.newObj, setL, V.cs, List.length_cons, List.length_nil, List.take_succ_cons, List.take_zero, List.drop_succ_cons, List.drop_zero, List.drop_nil, List.nil_append, List.cons_append, List.append_nil, Nat.zero_add, Nat.reduceAdd, List.map_cons, List.map_nil, List.set_cons_zero, List.set_cons_succ, enum]
  refine AW.scope ?_
  refine AW.seq ?_
  refine AW.region ?_
  refine AL.rd rfl rfl (rd_loads_ref Try.underlying24 rfl inf24 rfl rfl rfl rfl rfl rfl) ?_
  refine AL.call (post := ?pc39) rfl (sm_call (args := [_]) ?hc39 ⟨Try.func68, rfl, rfl, rfl, rfl⟩ rfl rfl rfl rfl) ?_
  case hc39 => exact hleast
  rintro _ rfl -
  try dsimp only
  refine AL.rp rfl rfl (rp_move rfl rfl) ?_
  refine AL.rp rfl rfl (rp_extract rfl rfl rfl) ?_
  refine AL.rp rfl rfl (rp_extract rfl rfl rfl) ?_
  refine AL.rp rfl rfl (rp_assign rfl rfl) ?_
  refine AL.rp rfl rfl (rp_assign rfl rfl) ?_
  refine AL.nil ?_
  try simp only [thenS, noG, S.put, S.newObj, setL, V.cs, List.length_cons, List.length_nil, List.take_succ_cons, List.take_zero, List.drop_succ_cons, List.drop_zero, List.drop_nil, List.nil_append, List.cons_append, List.append_nil, Nat.zero_add, Nat.reduceAdd, List.map_cons, List.map_nil, List.set_cons_zero, List.set_cons_succ]
  refine AW.seq ?_
  refine AW.block ?_
  refine AW.seq ?_
  refine AW.region ?_
  refine AL.rp rfl rfl (rp_move rfl rfl) ?_
  (refine AL.rp rfl rfl (rp_neqT rfl rfl rfl (by first | assumption | omega | (dsimp only; omega))) ?_)
  refine AL.rp rfl rfl (rp_assign rfl rfl) ?_
  refine AL.nil ?_
  try simp only [thenS, noG, S.put]
  refine AW.condT rfl ?_
  refine AW.seq ?_
  refine AW.region ?_
  refine AL.rp rfl rfl (rp_build (vs := []) (zs := [.d (.p (.int .i64 0)), .d (.p (.slice none 0 0))]) pl51 inf51 rfl rfl rfl rfl) ?_
  refine AL.rp rfl rfl (rp_move rfl rfl) ?_
  refine AL.st rfl (st_store_any inf51 rfl rfl rfl rfl rfl rfl rfl rfl (by first | decide | (simp; done) | (simp; omega)) rfl) ?_
  refine AL.rp rfl rfl (rp_assign rfl rfl) ?_
  refine AL.nil ?_
  try simp only [thenS, noG, S.put, S.newObj, setL, V.cs, List.length_cons, List.length_nil, List.take_succ_cons, List.take_zero, List.drop_succ_cons, List.drop_zero, List.drop_nil, List.nil_append, List.cons_append, List.append_nil, Nat.zero_add, Nat.reduceAdd, List.map_cons, List.map_nil, List.set_cons_zero, List.set_cons_succ]
  refine AW.ret ?_
  exact ⟨[_, _], ⟨⟨2, 0, _, _, rfl, rfl, rfl, Try.underlying51, .inr ⟨rfl, _, _, _, _, inf51, rfl, rfl, rfl⟩⟩, rfl, trivial⟩, .inl ⟨hd, rfl⟩, by simp [tupOf, V.pure, V.has, V.hasL]⟩
end Go.Proofs.Ytnpbdcjfealoeaa
