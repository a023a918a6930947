/- Part 10 of what the law LeastMakes rests on. -/
import Derived.Shelf.LaysM
import Derived.Shelf.Bits.Mul64
import Derived.Test.YthiknkcigcglkaaGreatDoorProg
import Derived.Laws.CopyRow
import Derived.Test.YthiknkcigcglkaaGreatDoorPkLe1
import Derived.Test.YthiknkcigcglkaaGreatDoorPkLe2
import Derived.Test.YthiknkcigcglkaaGreatDoorPkLe3
import Derived.Test.YthiknkcigcglkaaGreatDoorPkLe4
import Derived.Test.YthiknkcigcglkaaGreatDoorPkLe5
import Derived.Test.YthiknkcigcglkaaGreatDoorPkLe6
import Derived.Test.YthiknkcigcglkaaGreatDoorPkLe7
import Derived.Test.YthiknkcigcglkaaGreatDoorPkLe8
import Derived.Test.YthiknkcigcglkaaGreatDoorPkLe9
namespace Go.Proofs.YthiknkcigcglkaaGreatDoor
open Go.RowKit
set_option linter.unusedSimpArgs false
set_option linter.unusedVariables false
set_option maxRecDepth 100000
set_option maxHeartbeats 8000000
open Go.Shelf Go.RowKit Go.Lib
def eqC (n : Nat) (cl cl' : List Nat) : Prop := ∀ q p, q < n → p < n → (clG cl q = clG cl p ↔ clG cl' q = clG cl' p)
theorem fndC_congr {n : Nat} {cl cl' : List Nat} (h : eqC n cl cl') {t : Nat} (ht : t < n) : ∀ {l : List Nat}, (∀ q ∈ l, q < n) → fndC cl l t = fndC cl' l t
  | [], _ => rfl
  | q :: l, hl => by
    have ih := fndC_congr h ht (l := l) fun q hq => hl q (List.mem_cons_of_mem _ hq)
    unfold fndC at ih ⊢
    rw [List.findIdx_cons, List.findIdx_cons, ih]
    have e : decide (clG cl q = clG cl t) = decide (clG cl' q = clG cl' t) := decide_eq_decide.2 (h q t (hl q List.mem_cons_self) ht)
    rw [e]
theorem arcsC_congr {n : Nat} {cl cl' : List Nat} (h : eqC n cl cl') : ∀ (ars : List Ar) (l : List Nat) (o : List Ar), (∀ q ∈ l, q < n) → (∀ a ∈ ars, a.t.toNat < n) → arcsC cl l ars o = arcsC cl' l ars o ∧ ∀ q ∈ (arcsC cl l ars o).1, q < n
  | [], l, o, hl, _ => ⟨rfl, hl⟩
  | a :: r, l, o, hl, ha => by
    have hat := ha a List.mem_cons_self
    have e1 := fndC_congr h hat hl
    have e2 : arcC cl l a = arcC cl' l a := by unfold arcC; rw [e1]
    have e3 : takC cl l a = takC cl' l a := by unfold takC; rw [e1]
    have e4 : ∀ q ∈ takC cl l a, q < n := fun q hq => by
      unfold takC at hq
      split at hq
      · rcases List.mem_append.1 hq with h1 | h1
        · exact hl q h1
        rw [List.mem_singleton] at h1; rw [h1]; exact hat
      exact hl q hq
    have ih := arcsC_congr h r (takC cl l a) (o ++ [arcC cl l a]) e4 fun x hx => ha x (List.mem_cons_of_mem _ hx)
    rw [arcsC, arcsC, ← e2, ← e3]
    exact ih
theorem stD_get {sts : List St} (ht : tin sts) (q : Nat) : ∀ a ∈ (sts[q]?.getD ⟨0, []⟩).arcs, a.t.toNat < sts.length := fun a ha => by
  cases h : sts[q]? with
  | none => rw [h] at ha; simp at ha
  | some x => rw [h] at ha; exact ht x (List.mem_of_getElem? h) a ha
theorem bldC_congr {sts : List St} (ht : tin sts) {cl cl' : List Nat} (h : eqC sts.length cl cl') : ∀ (k : Nat) (l : List Nat) (out : List St), (∀ q ∈ l, q < sts.length) → bldC sts cl k l out = bldC sts cl' k l out
  | 0, _, _, _ => rfl
  | k + 1, l, out, hl => by
    rw [bldC, bldC]
    cases hq : l[out.length]? with
    | none => rfl
    | some q =>
      obtain ⟨e1, e2⟩ := arcsC_congr h (sts[q]?.getD ⟨0, []⟩).arcs l [] hl (stD_get ht q)
      simp only
      rw [← e1]
      exact bldC_congr ht h k _ _ e2
open Classical in
/-- A state's class: the first state that nothing tells from it. -/
noncomputable def clS (sts : List St) : List Nat := (List.range sts.length).map fun q => (List.range sts.length).findIdx fun p => decide (sim sts q p)
theorem clS_get {sts : List St} {q : Nat} (hq : q < sts.length) : ∃ j, clG (clS sts) q = j ∧ ∀ p, p < sts.length → sim sts q p → j < sts.length ∧ sim sts q j := by
  classical
  refine ⟨_, rfl, fun p hp hs => ?_⟩
  have e : clG (clS sts) q = (List.range sts.length).findIdx fun p => decide (sim sts q p) := by
    unfold clG clS
    rw [List.getElem?_map, List.getElem?_range hq]
    rfl
  rw [e]
  have hlt : ((List.range sts.length).findIdx fun p => decide (sim sts q p)) < (List.range sts.length).length := List.findIdx_lt_length_of_exists ⟨p, List.mem_range.2 hp, decide_eq_true hs⟩
  refine ⟨by simpa using hlt, ?_⟩
  have := List.findIdx_getElem (xs := List.range sts.length) (p := fun p => decide (sim sts q p)) (w := hlt)
  rw [List.getElem_range] at this
  exact of_decide_eq_true this
theorem clS_iff {sts : List St} (ht : tin sts) {q p : Nat} (hq : q < sts.length) (hp : p < sts.length) : clG (clS sts) q = clG (clS sts) p ↔ sim sts q p := by
  classical
  constructor
  · intro e
    obtain ⟨j, h1, h2⟩ := clS_get hq
    obtain ⟨i, h3, h4⟩ := clS_get hp
    obtain ⟨_, h5⟩ := h2 q hq (sim_refl ht hq)
    obtain ⟨_, h6⟩ := h4 p hp (sim_refl ht hp)
    have : j = i := by rw [← h1, ← h3, e]
    subst this
    exact sim_trans h5 (sim_symm h6)
  intro h
  unfold clG clS
  rw [List.getElem?_map, List.getElem?_range hq, List.getElem?_map, List.getElem?_range hp]
  have : (fun r => decide (sim sts q r)) = fun r => decide (sim sts p r) := funext fun r => decide_eq_decide.2 ⟨fun h1 => sim_trans (sim_symm h) h1, fun h1 => sim_trans h h1⟩
  simp only [Option.map_some, Option.getD_some]
  rw [this]
/-- The states of the least machine. -/
noncomputable def lstS (sts : List St) (st : Nat) : List St := bldC sts (clS sts) sts.length [st] []
theorem lst_of {sts : List St} (ht : tin sts) {cl : List Nat} {st : Nat} (hst : st < sts.length) (h : ∀ q p, q < sts.length → p < sts.length → (clG cl q = clG cl p ↔ sim sts q p)) : bldC sts cl sts.length [st] [] = lstS sts st :=
  bldC_congr ht (fun q p hq hp => (h q p hq hp).trans (clS_iff ht hq hp).symm) _ _ _ fun q hq => by rw [List.mem_singleton] at hq; rw [hq]; exact hst
/-- What least.Make answers. -/
noncomputable def leE (m : Mach) : Int := if machE m ≠ 0 then machE m else if bFl m.states = false then 7 else if (bDi m.states && bFl m.states) = false then 8 else pushE m
noncomputable def leM (m : Mach) : Mach := if leE m = 0 then (if (pushM m).start < 0 then resM inO (pushM m) else ⟨0, lstS (resM inO (pushM m)).states (pushM m).start.toNat⟩) else ⟨0, []⟩
noncomputable def leV (m : Mach) : Int := if leE m = 0 then (if (pushM m).start < 0 then 0 else pushV m) else 0
theorem le_none {m : Mach} (h : leE m ≠ 0) : leM m = ⟨0, []⟩ ∧ leV m = 0 := ⟨by unfold leM; rw [if_neg h], by unfold leV; rw [if_neg h]⟩
theorem arcN_pushL {D : List Nat} : ∀ (l : List St) (k : Nat), arcN (pushL D k l) = arcN l
  | [], k => rfl
  | s :: l, k => by
    have ih := arcN_pushL (D := D) l (k + 1)
    unfold arcN at ih ⊢
    rw [pushL, List.map_cons, List.map_cons, List.sum_cons, List.sum_cons, ih]
    simp [pushS]
theorem tell_le {x : Nat} (h : okD x = true) : tell x ≤ 1000000001 := by
  unfold okD at h
  unfold tell
  have h := of_decide_eq_true h
  split <;> omega
/-- A machine that has been pushed is a good one. -/
theorem push_good {m : Mach} (h : pushE m = 0) : machE (pushM m) = 0 := by
  have h0 : machE m = 0 := by
    unfold pushE at h
    by_cases h1 : machE m = 0
    · exact h1
    rw [if_pos h1] at h; exact h
  obtain ⟨T, hT⟩ : ∃ T, trimM m = T := ⟨_, rfl⟩
  unfold pushE at h
  rw [if_neg (by simp [h0]), hT] at h
  by_cases h1 : disE (enD T) T = 0
  · rw [if_neg (by simp [h1])] at h
    have hTm := disE_mach h1
    have hall : (enD T).all okD = true := by
      unfold disE at h1
      rw [if_neg (by simp [hTm])] at h1
      by_cases hh : (enD T).all okD = true
      · exact hh
      rw [if_neg hh] at h1; cases h1
    by_cases ho : pushOk (disL (enD T) T) T.states
    · obtain ⟨_, hM, _⟩ := pushE_ok h0 (hT ▸ h1) hT rfl ho
      rw [hM]
      have hL : disL (enD T) T = (enD T).map tell := by unfold disL; rw [if_pos h1]
      obtain ⟨z1, z2, z3, z4⟩ := machE_zero hTm
      have hD : ∀ q, q < T.states.length → (disL (enD T) T)[q]? = some (tell (dst (fInit (enF T)) (fEdge (enE T)) q)) := fun q hq => by
        rw [hL]
        unfold enD dstL
        rw [List.getElem?_map, List.getElem?_map, List.getElem?_range hq]
        rfl
      have hDo : ∀ q, q < T.states.length → okD (dst (fInit (enF T)) (fEdge (enE T)) q) = true := fun q hq => by
        refine List.all_eq_true.1 hall _ (List.mem_of_getElem? (i := q) ?_)
        unfold enD dstL
        rw [List.getElem?_map, List.getElem?_range hq]
        rfl
      obtain ⟨D, hDe⟩ : ∃ D, disL (enD T) T = D := ⟨_, rfl⟩
      rw [hDe] at hD ho ⊢
      have hbig := big_eq
      have harc : ∀ s ∈ T.states, ∀ a ∈ s.arcs, 0 ≤ a.t ∧ a.t < T.states.length ∧ 0 ≤ a.w := fun s hs a ha => by
        have := (z4 s hs).2 a ha
        simp only [arOk, decide_eq_true_eq] at this
        omega
      have hst : ∀ q x, T.states[q]? = some x → stOk T.states.length (pushS D q x) = true := fun q x hx => by
        have hq : q < T.states.length := (List.getElem?_eq_some_iff.1 hx).1
        obtain ⟨f1, f2⟩ := z4 x (List.mem_of_getElem? hx)
        obtain ⟨b1, b2, b3⟩ := dst_spec (Init := fInit (enF T)) (Edge := fEdge (enE T)) q
        have hdq := dAt_of (hD q hq)
        have htq := tell_le (hDo q hq)
        unfold stOk
        rw [Bool.and_eq_true]
        constructor
        · unfold finOk at f1 ⊢
          have f1 := of_decide_eq_true f1
          refine decide_eq_true ?_
          show 0 ≤ pushF D q x ∧ pushF D q x ≤ 1000000001
          unfold pushF
          split
          · omega
          rename_i hne
          have hini : fInit (enF T) q x.fin.toNat := by
            refine ⟨?_, by omega⟩
            unfold enF
            rw [bl_get hq, List.getD_eq_getElem?_getD, hx]
            rfl
          have hle := b3 _ (.init _ _ hini)
          rw [hdq]
          have : tell (dst (fInit (enF T)) (fEdge (enE T)) q) ≤ x.fin.toNat := by
            unfold tell
            rw [if_neg zT15]
            exact hle
          omega
        show (x.arcs.map (pushA D q)).all _ = true
        rw [List.all_map, List.all_eq_true]
        intro a ha
        have k1 := f2 a ha
        have k2 := ho q x a hx ha
        obtain ⟨c1, c2, c3⟩ := harc x (List.mem_of_getElem? hx) a ha
        simp only [arOk, decide_eq_true_eq] at k1
        refine arOk_yes ?_
        simp only [pushA]
        refine ⟨k1.1, k1.2.1, ⟨?_, k2⟩, k1.2.2.2⟩
        have htl : a.t.toNat < T.states.length := by omega
        have hdt := dAt_of (hD _ htl)
        have htt := tell_le (hDo _ htl)
        obtain ⟨d1, d2, d3⟩ := dst_spec (Init := fInit (enF T)) (Edge := fEdge (enE T)) a.t.toNat
        unfold pushW
        rw [hdq, hdt]
        obtain ⟨j, hj⟩ := List.getElem?_of_mem ha
        have hedge : fEdge (enE T) a.t.toNat q a.w.toNat := (en_edge harc).2 ⟨x, j, a, hx, hj, by omega, by omega⟩
        have : tell (dst (fInit (enF T)) (fEdge (enE T)) q) ≤ a.w.toNat + tell (dst (fInit (enF T)) (fEdge (enE T)) a.t.toNat) := by
          by_cases e : dst (fInit (enF T)) (fEdge (enE T)) a.t.toNat = big
          · have : tell (dst (fInit (enF T)) (fEdge (enE T)) a.t.toNat) = 1000000001 := by unfold tell; rw [if_pos e]
            omega
          have hp := d2 zT15
          have hle := b3 _ (.step _ _ _ _ hp hedge)
          have e2 : tell (dst (fInit (enF T)) (fEdge (enE T)) a.t.toNat) = dst (fInit (enF T)) (fEdge (enE T)) a.t.toNat := by unfold tell; rw [if_neg e]
          have hok := hDo _ htl
          unfold okD at hok
          have hok := of_decide_eq_true hok
          rw [e2]
          have e3 : tell (dst (fInit (enF T)) (fEdge (enE T)) q) = dst (fInit (enF T)) (fEdge (enE T)) q := by unfold tell; rw [if_neg zT15]
          omega
        omega
      unfold machE
      simp only
      rw [pushL_len, arcN_pushL, if_neg zT15, if_pos]
      refine ⟨?_, ?_⟩
      · unfold startOk
        simp only
        rw [pushL_len]
        exact z3
      rw [List.all_eq_true]
      intro s hs
      obtain ⟨q, hq⟩ := List.getElem?_of_mem hs
      rw [pushL_get, Nat.zero_add] at hq
      cases hx : T.states[q]? with
      | none => rw [hx] at hq; cases hq
      | some x =>
        rw [hx] at hq
        simp only [Option.map_some, Option.some.injEq] at hq
        rw [← hq]
        exact hst q x hx
    rw [if_neg ho] at h; cases h
  rw [if_pos h1] at h; exact absurd h h1
/-- What is known of a sorted machine. -/
theorem srt_good {m : Mach} (h : machE m = 0) : (resM inO m).start = m.start ∧ (resM inO m).states.length = m.states.length ∧ ∀ s ∈ (resM inO m).states, s.arcs.length ≤ 400 ∧ finOk s.fin = true ∧ ∀ a ∈ s.arcs, arOk m.states.length a = true := by
  obtain ⟨z1, z2, z3, z4⟩ := machE_zero h
  have hR : resM inO m = ⟨m.start, m.states.map fun s => ⟨s.fin, inO s.arcs⟩⟩ := by unfold resM; rw [if_pos h]
  rw [hR]
  refine ⟨rfl, by simp, fun s hs => ?_⟩
  obtain ⟨x, hx, rfl⟩ := List.mem_map.1 hs
  obtain ⟨f1, f2⟩ := z4 x hx
  have := arc_le hx
  refine ⟨by simp only [inO_len]; omega, f1, fun a ha => f2 a ((inO_perm _).mem_iff.1 ha)⟩
theorem Nmb.map {κ κ' : Type} {known ks : List κ} {out : List Nat} (h : Nmb known ks out) (φ : κ → κ') (hφ : ∀ k ∈ ks, ∀ k' ∈ ks, φ k = φ k' → k = k') : Nmb (known.map φ) (ks.map φ) out := by
  refine ⟨by rw [List.length_map, h.len], ?_, fun q k j h1 h2 => ?_, fun k hk => ?_⟩
  · refine List.pairwise_map.2 (h.nd.imp_of_mem fun {a b} ha hb hne e => hne (hφ a (h.all a ha) b (h.all b hb) e))
  · rw [List.getElem?_map] at h1
    cases h3 : ks[q]? with
    | none => rw [h3] at h1; cases h1
    | some k0 =>
      rw [h3] at h1
      simp only [Option.map_some, Option.some.injEq] at h1
      rw [List.getElem?_map, h.at_ q k0 j h3 h2, ← h1]; rfl
  obtain ⟨k0, h1, rfl⟩ := List.mem_map.1 hk
  exact List.mem_map_of_mem (h.all k0 h1)
/-- A round over keys that are as good as signs. -/
theorem Nmb.sg {κ : Type} {sts : List St} {c : List Nat} {known ks : List κ} {out : List Nat} (h : Nmb known ks out) (hl : ks.length = sts.length) (hk : ∀ (q p : Nat) (x y : St) (k k' : κ), sts[q]? = some x → sts[p]? = some y → ks[q]? = some k → ks[p]? = some k' → (k = k' ↔ sgK c q x = sgK c p y)) :
    ∃ (kn ks' : List (Nat × Int × List (Int × Int × Int × Nat))), Nmb kn ks' out ∧ kn.length = known.length ∧ ks'.length = sts.length ∧ ∀ (q : Nat) (x : St), sts[q]? = some x → ks'[q]? = some (sgK c q x) := by
  classical
  obtain ⟨φ, hφ⟩ : ∃ φ : κ → Nat × Int × List (Int × Int × Int × Nat), ∀ (q : Nat) (x : St) (k : κ), sts[q]? = some x → ks[q]? = some k → φ k = sgK c q x := by
    refine ⟨fun k => if hh : ∃ r : Nat × St, sts[r.1]? = some r.2 ∧ ks[r.1]? = some k then sgK c (Classical.choose hh).1 (Classical.choose hh).2 else (0, 0, []), fun q x k h1 h2 => ?_⟩
    have hh : ∃ r : Nat × St, sts[r.1]? = some r.2 ∧ ks[r.1]? = some k := ⟨(q, x), h1, h2⟩
    simp only
    rw [dif_pos hh]
    obtain ⟨g1, g2⟩ := Classical.choose_spec hh
    exact (hk _ _ _ _ _ _ g1 h1 g2 h2).1 rfl
  refine ⟨known.map φ, ks.map φ, h.map φ fun k h1 k' h2 e => ?_, by simp, by simp [hl], fun q x hx => ?_⟩
  · obtain ⟨q, hq⟩ := List.getElem?_of_mem h1
    obtain ⟨p, hp⟩ := List.getElem?_of_mem h2
    have hql : q < sts.length := by rw [← hl]; exact (List.getElem?_eq_some_iff.1 hq).1
    have hpl : p < sts.length := by rw [← hl]; exact (List.getElem?_eq_some_iff.1 hp).1
    have hx := List.getElem?_eq_getElem hql
    have hy := List.getElem?_eq_getElem hpl
    rw [hφ _ _ _ hx hq, hφ _ _ _ hy hp] at e
    exact (hk _ _ _ _ _ _ hx hy hq hp).2 e
  have hlt : q < ks.length := by rw [hl]; exact (List.getElem?_eq_some_iff.1 hx).1
  have h1 := List.getElem?_eq_getElem hlt
  rw [List.getElem?_map, h1, Option.map_some, hφ q x _ hx h1]
/-- The key of a state. -/
def kS (cl : List Nat) (q : Nat) (x : St) : ByteArray := decS (clG cl q) ++ ⟨#[124]⟩ ++ wdS (sgN cl x)
theorem kS_eq (cl : List Nat) (q : Nat) (x : St) : kS cl q x = ⟨(sgB cl q x).toArray⟩ := by
  unfold kS decS wdS sgB
  have h1 : (⟨#[124]⟩ : ByteArray) = ⟨[(124 : UInt8)].toArray⟩ := rfl
  rw [h1, ByteArray.mk_append_mk, ByteArray.mk_append_mk]
  congr 1
  simp
theorem kS_iff {cl : List Nat} {q p : Nat} {x y : St} (hx : pos0 x) (hy : pos0 y) : kS cl q x = kS cl p y ↔ sgK cl q x = sgK cl p y := by
  rw [kS_eq, kS_eq, ← sgB_iff hx hy]
  constructor
  · intro h
    have := congrArg (fun b : ByteArray => b.data.toList) h
    simpa using this
  intro h; rw [h]
def kysS (cl : List Nat) (sts : List St) : List ByteArray := (List.range sts.length).map fun q => kS cl q (sts[q]?.getD ⟨0, []⟩)
theorem kysS_len (cl : List Nat) (sts : List St) : (kysS cl sts).length = sts.length := by simp [kysS]
theorem kysS_get {cl : List Nat} {sts : List St} {q : Nat} {x : St} (h : sts[q]? = some x) : (kysS cl sts)[q]? = some (kS cl q x) := by
  unfold kysS
  rw [List.getElem?_map, List.getElem?_range (List.getElem?_eq_some_iff.1 h).1, Option.map_some, h]
  rfl
/-- The keys that are known, each with its place. -/
def kmp : Nat → List ByteArray → List (ByteArray × Int)
  | _, [] => []
  | i, k :: l => (k, (i : Int)) :: kmp (i + 1) l
theorem kmp_len : ∀ (l : List ByteArray) (i : Nat), (kmp i l).length = l.length
  | [], _ => rfl
  | k :: l, i => by rw [kmp, List.length_cons, List.length_cons, kmp_len l]
theorem kmp_snoc : ∀ (l : List ByteArray) (i : Nat) (k : ByteArray), kmp i (l ++ [k]) = kmp i l ++ [(k, ((i + l.length : Nat) : Int))]
  | [], i, k => rfl
  | x :: l, i, k => by
    rw [List.cons_append, kmp, kmp, kmp_snoc l (i + 1) k, List.length_cons]
    rw [show i + 1 + l.length = i + (l.length + 1) by omega]
    rfl
theorem kmp_get : ∀ (l : List ByteArray) (i : Nat) (k : ByteArray) (v : Int), mget (kmp i l) k = some v → ∃ j, v = ((i + j : Nat) : Int) ∧ l[j]? = some k
  | [], i, k, v, h => by simp [kmp, mget, mfind] at h
  | x :: l, i, k, v, h => by
    rw [kmp, mget_cons] at h
    split at h
    · rename_i e
      simp only [Option.some.injEq] at h
      exact ⟨0, by rw [← h]; rfl, by rw [e]; rfl⟩
    obtain ⟨j, h1, h2⟩ := kmp_get l (i + 1) k v h
    exact ⟨j + 1, by rw [h1]; congr 1; omega, by simpa using h2⟩
theorem kmp_none {l : List ByteArray} {k : ByteArray} (h : mget (kmp 0 l) k = none) : k ∉ l := by
  rw [mget_none] at h
  intro hm
  have key : ∀ (l : List ByteArray) (i : Nat), k ∈ l → ∃ x ∈ kmp i l, x.1 = k := by
    intro l
    induction l with
    | nil => intro i hm; cases hm
    | cons y l ih =>
      intro i hm
      rcases List.mem_cons.1 hm with rfl | hm
      · exact ⟨_, List.mem_cons_self, rfl⟩
      obtain ⟨x, h1, h2⟩ := ih (i + 1) hm
      exact ⟨x, List.mem_cons_of_mem _ h1, h2⟩
  obtain ⟨x, h1, h2⟩ := key l 0 hm
  exact h x h1 h2
/-- What a round of rounds keeps. -/
structure ClsI (sts : List St) (cl : List Nat) (m : Nat) : Prop where
  i : clI sts cl
  cov : ∀ j, j < m → j ∈ cl
  lt : ∀ c ∈ cl, c < m
  le : m ≤ sts.length
theorem ClsI.begin {sts : List St} (h : 0 < sts.length) : ClsI sts (List.replicate sts.length 0) 1 := by
  refine ⟨⟨by simp, fun q p hs => ?_⟩, fun j hj => ?_, fun c hc => ?_, by omega⟩
  · obtain ⟨x, y, h1, h2, _⟩ := sim_bis sts q p hs
    rw [List.getElem?_replicate, List.getElem?_replicate, if_pos (List.getElem?_eq_some_iff.1 h1).1, if_pos (List.getElem?_eq_some_iff.1 h2).1]
  · obtain rfl : j = 0 := by omega
    exact List.mem_replicate.2 ⟨by omega, rfl⟩
  rw [List.eq_of_mem_replicate hc]; omega
theorem ClsI.next {sts : List St} {cl : List Nat} {m : Nat} (h : ClsI sts cl m) (ht : tin sts) (hp : ∀ x ∈ sts, pos0 x) {known : List ByteArray} {out : List Nat} (hn : Nmb known (kysS cl sts) out) :
    ClsI sts out known.length ∧ m ≤ known.length ∧ (known.length = m → ∀ q p, q < sts.length → p < sts.length → (clG out q = clG out p ↔ sim sts q p)) := by
  obtain ⟨kn, ks', n1, n2, n3, n4⟩ := hn.sg (c := cl) (kysS_len cl sts) fun q p x y k k' h1 h2 h3 h4 => by
    rw [kysS_get h1] at h3
    rw [kysS_get h2] at h4
    cases h3
    cases h4
    exact kS_iff (hp x (List.mem_of_getElem? h1)) (hp y (List.mem_of_getElem? h2))
  have hc : ∀ (q : Nat) (k : Nat × Int × List (Int × Int × Int × Nat)), ks'[q]? = some k → cl[q]? = some k.1 := fun q k hk => by
    have hlt : q < sts.length := by rw [← n3]; exact (List.getElem?_eq_some_iff.1 hk).1
    have := n4 q _ (List.getElem?_eq_getElem hlt)
    rw [hk] at this
    rw [Option.some.inj this]
    have hlc : q < cl.length := by rw [h.i.1]; exact hlt
    rw [List.getElem?_eq_getElem hlc]
    simp [sgK, List.getElem?_eq_getElem hlc]
  refine ⟨⟨clI_step h.i n1 n4 n3, fun j hj => hn.cover j hj, fun c hc => ?_, by have := hn.le; rw [kysS_len] at this; exact this⟩, ?_, fun e q p hq hp => ?_⟩
  · obtain ⟨i, hi⟩ := List.getElem?_of_mem hc
    exact hn.lt hi
  · have := n1.ge (fun k => k.1) hc h.cov (h.i.1.trans n3.symm)
    omega
  exact clI_done ht h.i n1 n4 n3 (fun j hj => h.cov j zT15) hq hp
theorem upM_agg1 (r : Nat) (l : List (Value × Value)) (x : Int) : upM r l (.agg [.i x]) = .agg [.i x] := rfl
theorem upM_tupA (r : Nat) (l : List (Value × Value)) (x : Int) (b : Bool) : upM r l (.tup [.agg [.i x], .b b]) = .tup [.agg [.i x], .b b] := rfl
theorem mpsR_n : ∀ l : List Nat, D.mpsR (l.map encN) = false := mpsR_map _ fun _ => rfl
theorem mpsL_nl (l : List Nat) : V.mpsL (l.map V.n) = false := by
  rw [V.mpsL_false]
  intro v hv
  obtain ⟨_, _, rfl⟩ := List.mem_map.1 hv
  rfl
theorem mpsL_nr (l : List Nat) (k : Nat) : V.mpsL (l.map V.n ++ List.replicate k (V.n 0)) = false := by
  rw [V.mpsL_false]
  intro v hv
  rcases List.mem_append.1 hv with hv | hv
  · obtain ⟨_, _, rfl⟩ := List.mem_map.1 hv
    rfl
  rw [List.eq_of_mem_replicate hv]; rfl
theorem set_next {out : List Nat} {q n v : Nat} (h : out.length = q) (hq : q < n) : (out ++ List.replicate (n - q) 0).set q v = (out ++ [v]) ++ List.replicate (n - (q + 1)) 0 := by
 obtain ⟨m, hm⟩ : ∃ m, n - q = m + 1 := ⟨n - q - 1, by omega⟩
 rw [hm, show n - (q + 1) = m by omega, List.set_append_right _ _ zT15, h, Nat.sub_self, List.replicate_succ, List.set_cons_zero, List.append_assoc]
 rfl
theorem rp_min1 {c : Cx} {s : S} {o : Oper} {t : Array TypeId} {x y : Operand} {n : Int} (ho : o.op = .call { callee := .builtin .min, args := #[x, y], argTypes := t }) (hx : s.ev x = some (.i 1)) (hy : s.ev y = some (.i n)) (h : 1 ≤ n) : RP c o s (.i 1) := fun g a w hs => by
 refine ⟨.int .i64 1, .d _ _ (.p _), fun w' => ?_⟩
 have h1 := VRep.p_eq (hs.ev hx)
 have h2 := VRep.p_eq (hs.ev hy)
 have h3 : ¬ n < 1 := by omega
 simp [execOp, ho, resolve, invoke, builtin, h1, h2, Builtin.min_, Builtin.min2, h, h3]
theorem am_classes (st : Int) (sts : List St) (h60 : sts.length ≤ 60) (h0 : 0 < sts.length) (hx4 : ∀ x ∈ sts, x.arcs.length ≤ 400) (hok : ∀ x ∈ sts, finOk x.fin = true ∧ ∀ a ∈ x.arcs, arOk sts.length a = true) : FnP preT Tryz.prog 17 [mV ⟨st, sts⟩] (fun v => ∃ (cl : List Nat) (m : Nat), v = .tup [.d (.sl 1 8 (cl.map encN)), .i (m : Int)] ∧ cl.length = sts.length ∧ (∀ c ∈ cl, c < m) ∧ m ≤ sts.length ∧ ∀ q p, q < sts.length → p < sts.length → (clG cl q = clG cl p ↔ sim sts q p)) := by
 have htin : tin sts := fun x hx a ha => by
  have h1 := (hok x hx).2 a ha
  simp only [arOk, decide_eq_true_eq] at h1
  omega
 have hpos : ∀ x ∈ sts, pos0 x := fun x hx => by
  obtain ⟨h1, h2⟩ := hok x hx
  simp only [finOk, decide_eq_true_eq] at h1
  refine ⟨h1.1, fun a ha => ?_⟩
  have h3 := h2 a ha
  simp only [arOk, decide_eq_true_eq] at h3
  omega
 have hbeg := ClsI.begin h0
 have hnext := fun (cl : List Nat) (m : Nat) (h : ClsI sts cl m) (known : List ByteArray) (out : List Nat) => h.next (known := known) (out := out) htin hpos
 obtain ⟨n, hn⟩ : ∃ n, sts.length = n := ⟨_, rfl⟩
 rw [hn] at h60 h0 hok hbeg hnext ⊢
 have hmin : (1 : Int) ≤ (n : Int) := by omega
 refine FnP.intro (n := 71) ⟨Tryz.func17, rfl, rfl, rfl, rfl⟩ zT8 zT16 fun w0 out hpre => ?_
 apply AW.sr
 refine AL.sm rfl (sm_box 1 rfl rfl rfl rfl rfl) ?_
 iterate 2 refine AL.z ?_
 apply AL.nil
 try simp only [nd, setL, V.cs, nz, Nat.reduceAdd, nm, ns, enum]
 apply AW.sr
 iterate 3 refine AL.z ?_
 refine AL.sm rfl (sm_make_map 16 V.i (0) Tryz.underlying42 inf3 rfl rfl rfl rfl rfl zT15 zT14 rfl rfl) ?_
 refine AL.z ?_
 apply AL.nil
 try simp only [nd, setL, V.cs, nz, Nat.reduceAdd, nm, ns]
 apply AW.seq
 have hz : (List.replicate n (0 : Int)).map V.i = (List.replicate n 0).map V.n := by simp
 have hrl : (List.replicate n (0 : Nat)).length = n := by simp
 rw [hz]
 refine AW.freeze 4 8 ((List.replicate n 0).map encN) rfl rfl rfl zT16 zT15 (rows1 rfl) ?_
 apply AW.region
 iterate 2 refine AL.z ?_
 refine AL.rp rfl rfl (rp_min1 rfl rfl rfl hmin) ?_
 refine AL.z ?_
 apply AL.nil
 try simp only [nd]
 apply AW.block
 refine AW.loopN (fun μ s' => ∃ (cl : List Nat) (m : Nat), n - m ≤ μ ∧ 1 ≤ m ∧ ClsI sts cl m ∧ s' = ⟨71, [(1, .ref 1 0), (4, .d (.sl 1 8 (cl.map encN))), (5, .i (m : Int))], [(1, ⟨24, [.i st, .d (stsD sts)], false, 0⟩)], []⟩) ⟨n, _, ?_, List.replicate n 0, 1, by omega, by omega, hbeg, rfl⟩ ?_
 ·exact Less.a0
 clear hbeg hz hmin
 rintro μ s' ⟨cl, m, hμ, hm1, hI, rfl⟩
 have hcl : cl.length = n := hI.i.1.trans hn
 have hcm : ∀ c ∈ cl, c ≤ 1000 := fun c hc => by
  have h1 := hI.lt c hc
  have h2 := hI.le
  omega
 have hsg := fun (x : St) (hx : x ∈ sts) => am_sign cl x n (hx4 x hx) (hok x hx).1 (hok x hx).2 (by rw [hcl]) hcm
 have hnx := hnext cl m hI
 have hkl := kysS_len cl sts
 rw [hn] at hkl
 apply AW.block
 apply AW.sr
 refine AL.sm rfl (sm_makeMap 20 rfl rfl rfl) ?_
 refine AL.z ?_
 apply AL.nil
 try simp only [nd, setL, V.cs, nz, Nat.reduceAdd, nm, ns]
 apply AW.sr
 iterate 2 refine AL.z ?_
 refine AL.sm rfl (sm_make_map 23 V.i (0) Tryz.underlying42 inf3 rfl rfl rfl rfl rfl zT15 zT14 rfl rfl) ?_
 refine AL.z ?_
 apply AL.nil
 try simp only [nd, setL, V.cs, nz, Nat.reduceAdd, nm, ns]
 apply AW.seq
 apply AW.sr
 iterate 4 refine AL.z ?_
 apply AL.nil
 try simp only [nd]
 apply AW.block
 refine AW.loop (fun s' => ∃ (q : Nat) (known : List ByteArray) (out : List Nat), q ≤ n ∧ out.length = q ∧ Nmb known ((kysS cl sts).take q) out ∧ s' = ⟨71, [(1, .ref 1 0), (4, .d (.sl 1 8 (cl.map encN))), (5, .i (m : Int)), (6, .mp 20 w0.heap.size (vrows (kmp 0 known))), (7, .own 23 1 n false), (25, .d (stsD sts)), (26, .i n), (27, .i q)], [(23, ⟨3, (out ++ List.replicate (n - q) 0).map V.n, false, 1⟩), (1, ⟨24, [.i st, .d (stsD sts)], false, 0⟩)], []⟩) (fun s' => n - s'.nat 27) ⟨_, ?_, 0, [], [], by omega, rfl, ⟨rfl, List.nodup_nil, fun q k j h => (by simp at h), fun k hk => (by cases hk)⟩, rfl⟩ ?_
 ·have hz : (List.replicate n (0 : Int)).map V.i = (([] : List Nat) ++ List.replicate (n - 0) 0).map V.n := by simp
  rw [← hz]
  exact Less.a0
 rintro s' ⟨q, known, out, hq, hol, hN, rfl⟩
 by_cases hlt : q < n
 ·obtain ⟨x, hx⟩ := get_lt hn hlt
  have hk : (kysS cl sts)[q]? = some (kS cl q x) := kysS_get hx
  have hsx := hsg x (List.mem_of_getElem? hx)
  have hcq : cl[q]? = some (clG cl q) := by unfold clG; rw [List.getElem?_eq_getElem zT15]; rfl
  have hc4 := hcm _ (List.mem_of_getElem? hcq)
  have hit := am_Itoa (clG cl q) zT15
  have hd := (decS_len (n := clG cl q) zT15).1
  have hws := wdS_le cl x n (hx4 x (List.mem_of_getElem? hx)) (hok x (List.mem_of_getElem? hx)).1 (hok x (List.mem_of_getElem? hx)).2 hcm
  have hs124 : (⟨#[124]⟩ : ByteArray).size = 1 := rfl
  have hkd : decS (clG cl q) ++ ⟨#[124]⟩ ++ wdS (sgN cl x) = kS cl q x := rfl
  obtain ⟨K0, hK0⟩ : ∃ K0, kS cl q x = K0 := ⟨_, rfl⟩
  rw [hK0] at hk hkd
  have hkml : (kmp 0 known).length = known.length := kmp_len _ _
  have hqR : q < (out ++ List.replicate (n - q) 0).length := by simp; omega
  obtain ⟨f, A⟩ := x
  simp only at hsx hws
  generalize wdS (sgN cl ⟨f, A⟩) = W at hsx hws hkd
  generalize clG cl q = cq at hcq hc4 hit hd hkd
  clear hK0 hsg hnx
  cases hget : mget (kmp 0 known) K0 with
  | none =>
   have hnew := kmp_none hget
   have hst := hN.step_new hnew
   rw [← take_snoc hk] at hst
   have hsn := kmp_snoc known 0 K0
   rw [Nat.zero_add] at hsn
   clear hN
   apply AW.sr
   refine AL.z ?_
   apply AL.nil
   try simp only [nd]
   apply AW.seq
   refine AW.condT rfl ?_
   apply AW.skip
   try simp only [thenS]
   apply AW.seq
   apply AW.block
   apply AW.sr
   iterate 3 refine AL.z ?_
   refine AL.sm rfl (sm_alloc (l := [.d (.p (.int .i64 0)), .d (.p (.slice none 0 0))]) 9 inf35 rfl zT1 rfl rfl) ?_
   refine AL.z ?_
   refine AL.y ?_
   apply AL.nil
   try simp only [nd, setL, V.cs, nz, Nat.reduceAdd, nm, ns]
   apply AW.seq
   refine AW.draw [(0, true), (1, true), (2, true), (3, true), (6, true), (7, true), (4, false), (5, true), (8, false), (9, false), (10, false)] (fun i => !([] : List Nat).contains i) 11 zT12 zT12 rfl zT12 ?_
   iterate 6 refine AD1.z ?_
   refine AD1.go ?_
   refine AD2.call (post := ?pc0) rfl rfl (sm_callP (args := [_]) (tab_kept _ _ _ _) zT13 ?hc0 ⟨Tryz.func40, rfl, rfl, rfl, rfl⟩ rfl rfl rfl rfl) ?_
   case hc0 => exact hit
   rintro _ rfl -
   try dsimp only
   refine AD2.rp rfl rfl rfl (fun _ _ h => h) (rp_adds rfl rfl rfl (by first | assumption | omega | (simp only [ByteArray.size_append]; omega))) ?_
   refine AD2.call (post := ?pc1) rfl rfl (sm_callP (args := [_, _]) (tab_kept _ _ _ _) zT13 ?hc1 ⟨Tryz.func41, rfl, rfl, rfl, rfl⟩ rfl rfl rfl rfl) ?_
   case hc1 => exact hsx
   rintro _ rfl -
   try dsimp only
   refine AD2.rp1 rfl rfl rfl (rp_adds rfl rfl rfl (by first | assumption | omega | (simp only [ByteArray.size_append]; omega))) ?_
   refine AD2.rp1 rfl rfl rfl (rp_assign rfl rfl) ?_
   refine AD2.nil ?_
   try simp only [nd, setL, V.cs, nz, Nat.reduceAdd, nm, ns]
   apply AW.seq
   rw [hkd]
   apply AW.region
   iterate 2 refine AL.z ?_
   refine AL.rd rfl rfl (rd_lookupS_miss Tryz.underlying9 Tryz.underlying72 inf75 rfl rfl rfl zT13) ?_
   iterate 3 refine AL.z ?_
   refine AL.sm rfl (sm_alloc (l := [.d (.p (.int .i64 0))]) 11 inf75 rfl zT1 rfl rfl) ?_
   refine AL.y ?_
   refine AL.z ?_
   apply AL.nil
   try simp only [nd, setL, V.cs, nz, Nat.reduceAdd, nm, ns]
   apply AW.seq
   apply AW.sr
   iterate 2 refine AL.z ?_
   apply AL.nil
   try simp only [nd]
   refine AW.condT rfl ?_
   apply AW.sr
   refine AL.z ?_
   refine AL.rd rfl rfl (rd_len_mpS Tryz.underlying72 rfl rfl zT13) ?_
   refine AL.z ?_
   (refine AL.st rfl (st_store inf3 rfl rfl rfl rfl rfl rfl rfl zT7 rfl) ?_)
   apply AL.nil
   try simp only [nd, setL, V.cs, nz, Nat.reduceAdd, nm, ns]
   apply AW.region
   iterate 3 refine AL.z ?_
   refine AL.st rfl (st_mapUpdateS Tryz.underlying9 Tryz.underlying72 rfl rfl rfl rfl rfl zT13 rfl (by simp [S.put, S.newObj, setL, V.cs, V.mpsL, V.mps, D.mps, D.mpsL, D.mpsR, mpsR_ars, mpsR_sts, V.one, upM_agg1, upM_tupA, mpsR_n, mpsL_nl, mpsL_nr]) rfl) ?_
   simp only [S.put, List.map_cons, List.map_nil, upM_p, upM_ref, upM_own, upM_mp, upM_junk, upM_tup, upM_sl, V.mpsL, V.mps, D.mps, D.mpsL, Bool.or_false, Bool.or_self,  mpsR_ars, mpsR_sts, upM_agg1, upM_tupA, mpsR_n, mpsL_nl, mpsL_nr]
   apply AL.nil
   try simp only [nd, setL, V.cs, nz, Nat.reduceAdd, nm, ns]
   apply AW.region
   iterate 5 refine AL.z ?_
   refine AL.st rfl (st_store_map2 (v := known.length) inf3 rfl rfl rfl rfl rfl rfl rfl rfl zT9) ?_
   apply AL.nil
   try simp only [nd, setL, V.cs, nz, Nat.reduceAdd, nm, ns]
   apply AW.region
   iterate 2 refine AL.z ?_
   apply AL.nil
   try simp only [nd]
   refine ⟨_, ?_, ⟨q + 1, known ++ [K0], out ++ [known.length], by omega, by simp [hol], hst, rfl⟩, ?_⟩
   ·rw [← set_next hol hlt, hsn]
    exact Less.a0
   simp [S.nat, fnd]; omega
  | some v =>
   obtain ⟨j, rfl, hj⟩ := kmp_get _ _ _ _ hget
   rw [Nat.zero_add] at hget
   have hst := hN.step_old hj
   rw [← take_snoc hk] at hst
   clear hN
   apply AW.sr
   refine AL.z ?_
   apply AL.nil
   try simp only [nd]
   apply AW.seq
   refine AW.condT rfl ?_
   apply AW.skip
   try simp only [thenS]
   apply AW.seq
   apply AW.block
   apply AW.sr
   iterate 3 refine AL.z ?_
   refine AL.sm rfl (sm_alloc (l := [.d (.p (.int .i64 0)), .d (.p (.slice none 0 0))]) 9 inf35 rfl zT1 rfl rfl) ?_
   refine AL.z ?_
   refine AL.y ?_
   apply AL.nil
   try simp only [nd, setL, V.cs, nz, Nat.reduceAdd, nm, ns]
   apply AW.seq
   refine AW.draw [(0, true), (1, true), (2, true), (3, true), (6, true), (7, true), (4, false), (5, true), (8, false), (9, false), (10, false)] (fun i => !([] : List Nat).contains i) 11 zT12 zT12 rfl zT12 ?_
   iterate 6 refine AD1.z ?_
   refine AD1.go ?_
   refine AD2.call (post := ?pc2) rfl rfl (sm_callP (args := [_]) (tab_kept _ _ _ _) zT13 ?hc2 ⟨Tryz.func40, rfl, rfl, rfl, rfl⟩ rfl rfl rfl rfl) ?_
   case hc2 => exact hit
   rintro _ rfl -
   try dsimp only
   refine AD2.rp rfl rfl rfl (fun _ _ h => h) (rp_adds rfl rfl rfl (by first | assumption | omega | (simp only [ByteArray.size_append]; omega))) ?_
   refine AD2.call (post := ?pc3) rfl rfl (sm_callP (args := [_, _]) (tab_kept _ _ _ _) zT13 ?hc3 ⟨Tryz.func41, rfl, rfl, rfl, rfl⟩ rfl rfl rfl rfl) ?_
   case hc3 => exact hsx
   rintro _ rfl -
   try dsimp only
   refine AD2.rp1 rfl rfl rfl (rp_adds rfl rfl rfl (by first | assumption | omega | (simp only [ByteArray.size_append]; omega))) ?_
   refine AD2.rp1 rfl rfl rfl (rp_assign rfl rfl) ?_
   refine AD2.nil ?_
   try simp only [nd, setL, V.cs, nz, Nat.reduceAdd, nm, ns]
   apply AW.seq
   rw [hkd]
   apply AW.region
   iterate 2 refine AL.z ?_
   refine AL.rd rfl rfl (rd_lookupS_hit Tryz.underlying9 Tryz.underlying72 inf75 rfl rfl rfl zT13) ?_
   iterate 3 refine AL.z ?_
   refine AL.sm rfl (sm_alloc (l := [.d (.p (.int .i64 0))]) 11 inf75 rfl zT1 rfl rfl) ?_
   refine AL.y ?_
   refine AL.z ?_
   apply AL.nil
   try simp only [nd, setL, V.cs, nz, Nat.reduceAdd, nm, ns]
   apply AW.seq
   apply AW.sr
   iterate 2 refine AL.z ?_
   apply AL.nil
   try simp only [nd]
   refine AW.condF rfl ?_
   apply AW.skip
   try simp only [thenS]
   apply AW.region
   iterate 5 refine AL.z ?_
   refine AL.st rfl (st_store_map2 (v := j) inf3 rfl rfl rfl rfl rfl rfl rfl rfl zT9) ?_
   apply AL.nil
   try simp only [nd, setL, V.cs, nz, Nat.reduceAdd, nm, ns]
   apply AW.region
   iterate 2 refine AL.z ?_
   apply AL.nil
   try simp only [nd]
   refine ⟨_, ?_, ⟨q + 1, known, out ++ [j], by omega, by simp [hol], hst, rfl⟩, ?_⟩
   ·rw [← set_next hol hlt]
    exact Less.a0
   simp [S.nat, fnd]; omega
 obtain rfl : q = n := by omega
 rw [List.take_of_length_le zT15] at hN
 obtain ⟨k1, k2, k3⟩ := hnx known out hN
 have hle := k1.le
 rw [hn] at hle
 have hout : out ++ List.replicate (q - q) 0 = out := by simp
 have hkml : (kmp 0 known).length = known.length := kmp_len _ _
 rw [hout]
 clear hsg hnx hnext hN hcm
 apply AW.sr
 refine AL.z ?_
 apply AL.nil
 try simp only [nd]
 apply AW.seq
 refine AW.condF rfl ?_
 refine AW.exit ?_
 try simp only [thenS, inBlockS, ↓reduceIte, Nat.reduceEqDiff]
 apply AW.seq
 apply AW.seq
 refine AW.freeze 7 8 (out.map encN) rfl rfl rfl (by rw [List.length_map, hol]) zT15 (rows1 rfl) ?_
 by_cases he : known.length = m
 ·apply AW.region
  refine AL.z ?_
  refine AL.rd rfl rfl (rd_len_mpS Tryz.underlying72 rfl rfl zT13) ?_
  iterate 2 refine AL.z ?_
  apply AL.nil
  try simp only [nd]
  refine AW.condT rfl ?_
  apply AW.sr
  iterate 4 refine AL.z ?_
  apply AL.nil
  try simp only [nd]
  apply AW.ret
  exact ⟨[_, _], ⟨rfl, rfl, trivial⟩, ⟨out, m, rfl, hol, fun c hc => by have := k1.lt c hc; omega, by omega, k3 he⟩, by simp [tupOf, V.pure, V.has, V.hasL]⟩
 skip
 apply AW.region
 refine AL.z ?_
 refine AL.rd rfl rfl (rd_len_mpS Tryz.underlying72 rfl rfl zT13) ?_
 iterate 2 refine AL.z ?_
 apply AL.nil
 try simp only [nd]
 refine AW.condF rfl ?_
 apply AW.skip
 try simp only [thenS]
 apply AW.region
 iterate 2 refine AL.z ?_
 refine AL.rd rfl rfl (rd_len_mpS Tryz.underlying72 rfl rfl zT13) ?_
 iterate 2 refine AL.z ?_
 apply AL.nil
 try simp only [nd]
 refine ⟨q - known.length, _, ?_, ⟨out, known.length, Nat.le_refl _, by omega, k1, rfl⟩, by omega⟩
 exact Less.a0
theorem bldC_step {sts : List St} {cl : List Nat} {k q : Nat} {l : List Nat} {P : List St} {x : St} (h : l[P.length]? = some q) (hx : sts[q]? = some x) : bldC sts cl (k + 1) l P = bldC sts cl k (arcsC cl l x.arcs []).1 (P ++ [⟨x.fin, (arcsC cl l x.arcs []).2⟩]) := by
  rw [bldC, h]
  simp only [hx, Option.getD_some]
theorem bldC_end {sts : List St} {cl : List Nat} {k : Nat} {l : List Nat} {P : List St} (h : l.length ≤ P.length) : bldC sts cl k l P = P := by
  cases k with
  | zero => rfl
  | succ k => rw [bldC, List.getElem?_eq_none h]
theorem arcsC_at {cl l : List Nat} {o A : List Ar} {i : Nat} {a : Ar} (h : A[i]? = some a) : arcsC cl l (A.drop i) o = arcsC cl (takC cl l a) (A.drop (i + 1)) (o ++ [arcC cl l a]) := by
  have hi := List.getElem?_eq_some_iff.1 h
  rw [List.drop_eq_getElem_cons hi.1, hi.2, arcsC]
theorem numI_zero (cl : List Nat) (m : Nat) : numI cl [] (List.replicate m (-1)) := by
  refine ⟨fun c v hv => ?_, fun c v hv h0 => ?_⟩
  · have : v = -1 := by
      rw [List.getElem?_replicate] at hv
      split at hv
      · simpa using hv.symm
      cases hv
    constructor
    · intro _ q hq; cases hq
    intro _; omega
  have : v = -1 := by
    rw [List.getElem?_replicate] at hv
    split at hv
    · simpa using hv.symm
    cases hv
  omega
theorem numI_one (cl : List Nat) (m s : Nat) : numI cl [s] ((List.replicate m (-1)).set (clG cl s) 0) := by
  have := numI_put (t := s) (numI_zero cl m) rfl
  simpa using this
theorem dstC_one (cl : List Nat) (s : Nat) : dstC cl [s] := fun i j q p hij hi hj => by
  have h1 := (List.getElem?_eq_some_iff.1 hj).1
  simp at h1
  omega
theorem takC_new {cl l : List Nat} {a : Ar} {p : Nat} (hp : a.t.toNat = p) (h : fndC cl l p = l.length) : takC cl l a = l ++ [p] ∧ arcC cl l a = ⟨a.i, a.o, a.w, l.length⟩ := by
  subst hp
  unfold takC arcC
  rw [if_pos h, h]
  exact ⟨rfl, rfl⟩
theorem takC_old {cl l : List Nat} {a : Ar} {p j : Nat} (hp : a.t.toNat = p) (h : fndC cl l p = j) (hj : j < l.length) : takC cl l a = l ∧ arcC cl l a = ⟨a.i, a.o, a.w, j⟩ := by
  subst hp
  subst h
  unfold takC arcC
  rw [if_neg zT15]
  exact ⟨rfl, rfl⟩
theorem clG_mem {cl : List Nat} {q n : Nat} (hc : cl.length = n) (hq : q < n) : cl[q]? = some (clG cl q) := by unfold clG; rw [List.getElem?_eq_getElem zT15]; rfl
theorem dstC_le {cl l : List Nat} {m n : Nat} (hd : dstC cl l) (hl : ∀ q ∈ l, q < n) (hc : cl.length = n) (hm : ∀ c ∈ cl, c < m) : l.length ≤ m := dst_len hd fun q hq => hm _ (List.mem_of_getElem? (clG_mem hc (hl q hq)))
def lays212_ren : Go.Shelf.Ren := ⟨fun | 212 => 42 | 263 => 84 | 264 => 85 | n => n, fun | 46 => 77 | 51 => 122 | 146 => 123 | 53 => 125 | 148 => 126 | n => n, fun | n => n⟩
theorem lays212 : Go.Proofs.Lays.n212 Tryz.prog lays212_ren := {
  mixed := by kernel_rfl
  f212 := Tryz.func42.trans (congrArg some (by kernel_rfl))
  f263 := Tryz.func84.trans (congrArg some (by kernel_rfl))
  f264 := Tryz.func85.trans (congrArg some (by kernel_rfl))
  t46 := Tryz.underlying77
  a46 := Tryz.isAgg77
  z46 := Tryz.sizeOf77
  v46 := Tryz.zeroValue77
  t51 := Tryz.underlying122
  a51 := Tryz.isAgg122
  z51 := Tryz.sizeOf122
  v51 := Tryz.zeroValue122
  t53 := Tryz.underlying125
  a53 := Tryz.isAgg125
  z53 := Tryz.sizeOf125
  v53 := Tryz.zeroValue125
  t146 := Tryz.underlying123
  a146 := Tryz.isAgg123
  z146 := Tryz.sizeOf123
  v146 := Tryz.zeroValue123
  t148 := Tryz.underlying126
  a148 := Tryz.isAgg126
  z148 := Tryz.sizeOf126
  v148 := Tryz.zeroValue126 }
theorem mul_call (x y : Nat) (hx : x < 18446744073709551616) (hy : y < 18446744073709551616) (w : World) :
    Calls Tryz.prog 42 #[.int .u64 x, .int .u64 y] w fun e w' => e = .returned (.tuple #[.int .u64 ((x * y / 18446744073709551616 : Nat) : Int), .int .u64 ((x * y % 18446744073709551616 : Nat) : Int)]) ∧ w' = w := Any.bits_Mul lays212 x y hx hy w
section
variable {c : Cx} {s : S} {o : Oper}
theorem rd_slice_ownFrom {t e : TypeId} {x y : Operand} {r sz n j bt : Nat} {z : Value} {n' : Int} {kd : IntKind} (hu : c.P.underlying t = some (.slice e)) (hi : Inf c.P e sz bt z) (ho : o.op = .slice t x (some y) none none) (hx : s.ev x = some (.own r sz n false)) (hy : s.ev y = some (.d (.p (.int kd n')))) (hk : n' = (j : Int)) (hle : j ≤ n) : RD c o s (.que r sz j (n - j)) := fun g a w hs => by
 subst hk
 have h := hs.ev hx
 have hyv := VRep.p_eq (hs.ev hy)
 generalize hxx : a.eval x = u at h
 cases h with
 | own _ _ _ hn hcp =>
  refine ⟨.slice (if (g r).2 = j then some ⟨(g r).1, 0, none⟩ else (some ⟨(g r).1, 0, none⟩ : Option Addr).map (·.add (j * sz))) (n - j) ((g r).2 - j), .que r sz j (n - j) _ _ zT15 zT15 fun h0 => ?_, fun w' _ => ?_⟩
  ·rw [if_neg zT15]
   exact ⟨by simp only [Option.map_some, Addr.add, Nat.zero_add]; split <;> simp_all, by omega⟩
  have h0 : (0 : Int) ≤ (j : Int) ∧ (j : Int) ≤ (n : Int) := by omega
  simp only [execOp, ho, hxx, hyv, Option.map_some, Option.map_none]
  simp only [Instr.sliceAt, Instr.slice, Sem.run_bind, run_underlying hu, Result.andThen_ok, Instr.sliceBounds, run_sliceBound _ kd _ _ _ h0.1 h0.2, Sem.run_pure, run_sizeOf hi, Int.toNat_natCast]
  rfl
/-- copy onto a slice of numbers of the call's own. -/
theorem st_copyI {t e : TypeId} {x y : Operand} {r p m k bt : Nat} {z : Value} {us xs : List Int} {row : Row} (hu : c.P.underlying t = some (.slice e)) (hi : Inf c.P e 1 bt z)
  (ho : o.op = .call { callee := .builtin .copy, args := #[x, y], argTypes := #[t, t] })
  (hx : ∀ g a w, Sim c g s a w → ∃ cap, a.eval x = .slice (some ⟨(g r).1, p, none⟩) m cap)
  (hy : ∀ g a w, Sim c g s a w → ∃ b q cap, a.eval y = .slice (some ⟨b, q, none⟩) us.length cap ∧ ∀ (j : Nat) (u : Int), us[j]? = some u → w.cell? ⟨b, q + j, none⟩ = some (.int .i64 u))
  (hr : fnd s.H r = some row) (hnl : row.nil = false) (hc : row.cells = xs.map V.i) (hpm : p + m ≤ xs.length) (hk : min us.length m = k) (hd : dok s o = true) :
  Step c o s (fun s' => s' = S.put ⟨s.n, s.T, (r, { row with cells := (xs.take p ++ us.take k ++ xs.drop (p + k)).map V.i }) :: s.H, s.K⟩ o.dst (.i (k : Int))) := by
 intro g a w hs K Q hK
 obtain ⟨cap, hxx⟩ := hx g a w hs
 obtain ⟨b, q, cap2, hyy, hcell⟩ := hy g a w hs
 obtain ⟨arr, h1, hsz2, h2⟩ := hs.obj r row hr hnl
 have hul : k ≤ us.length := by omega
 have hvl : ((us.take k).map fun u : Int => Value.int .i64 u).length = k := by simp; omega
 have hload := run_loadCells_list (P := c.P) (w := w) ⟨b, q, none⟩ ((us.take k).map fun u : Int => Value.int .i64 u) (fun j v hj => by
  rw [List.getElem?_map, List.getElem?_take] at hj
  split at hj
  ·cases hju : us[j]? with
   | none => rw [hju] at hj; cases hj
   | some u =>
    rw [hju] at hj
    simp only [Option.map_some, Option.some.injEq] at hj
    rw [addr_add, ← hj]
    exact hcell j u hju
  cases hj)
 rw [hvl] at hload
 have harr : xs.length ≤ arr.size := by
  by_cases h0 : xs.length = 0
  ·omega
  have hlt : xs.length - 1 < xs.length := by omega
  obtain ⟨y, h3, _⟩ := h2 (xs.length - 1) (.i xs[xs.length - 1]) (by rw [hc, List.getElem?_map, List.getElem?_eq_getElem hlt]; rfl)
  have := (Array.getElem?_eq_some_iff.1 h3).1
  omega
 have hrun := run_storeCells_at c.P (g r).1 p row.ty ((us.take k).map fun u : Int => Value.int .i64 u) 0 arr w h1 (by rw [hvl]; omega) (fun v hv => by obtain ⟨u, _, rfl⟩ := List.mem_map.1 hv; rfl)
 unfold Oper.wp
 have hexec : (execOp a.eval o).run c.P w = .ok (.value (.int .i64 (k : Int))) (w.setRow (g r).1 (arr.toList.take (p + 0) ++ ((us.take k).map fun u : Int => Value.int .i64 u) ++ arr.toList.drop (p + 0 + ((us.take k).map fun u : Int => Value.int .i64 u).length)).toArray) := by
  have hmin : Nat.min us.length m = k := hk
  generalize ((us.take k).map fun u : Int => Value.int .i64 u) = vs at hload hrun
  have hcopy : (Builtin.copy_ #[t, t] o.type #[.slice (some ⟨(g r).1, p, none⟩) m cap, .slice (some ⟨b, q, none⟩) us.length cap2]).run c.P w = .ok (.int .i64 (k : Int)) (w.setRow (g r).1 (arr.toList.take (p + 0) ++ vs ++ arr.toList.drop (p + 0 + vs.length)).toArray) := by
   simp [Builtin.copy_, run_underlying hu, run_sizeOf hi, Builtin.lenOf, Builtin.firstCells, hmin, hload, hrun, goInt]
  simp only [execOp, ho, resolve, invoke, builtin, Sem.run_bind, Sem.run_pure, Result.andThen_ok, List.map_toArray, List.map_cons, List.map_nil, hxx, hyy, hcopy]
 rw [hexec]
 have hs2 : Sim c g { s with H := (r, { row with cells := (xs.take p ++ us.take k ++ xs.drop (p + k)).map V.i }) :: s.H } a (w.setRow (g r).1 (arr.toList.take (p + 0) ++ ((us.take k).map fun u : Int => Value.int .i64 u) ++ arr.toList.drop (p + 0 + ((us.take k).map fun u : Int => Value.int .i64 u).length)).toArray) := by
  refine Sim.setRow hs (row' := { row with cells := (xs.take p ++ us.take k ++ xs.drop (p + k)).map V.i }) hr hnl rfl hnl rfl (setRow_heap _ _ _ _ _ _ h1) (fun b hb => setRow_other _ _ _ _ hb) zT16 rfl rfl rfl ?_ ?_
  ·intro arr0 ty h0
   rw [h1] at h0
   simp only [Option.some.injEq, Obj.cells.injEq, and_true] at h0
   obtain ⟨rfl, _⟩ := h0
   have hvl' := hvl
   simp
   omega
  intro j v hv
  have key : (xs.take p ++ us.take k ++ xs.drop (p + k))[j]? = none ∨ ∃ u, (xs.take p ++ us.take k ++ xs.drop (p + k))[j]? = some u ∧ (arr.toList.take (p + 0) ++ ((us.take k).map fun u : Int => Value.int .i64 u) ++ arr.toList.drop (p + 0 + ((us.take k).map fun u : Int => Value.int .i64 u).length))[j]? = some (.int .i64 u) := by
   have hat : ∀ (i : Nat) (u : Int), xs[i]? = some u → arr.toList[i]? = some (.int .i64 u) := fun i u hu => by
    obtain ⟨y, h3, h4⟩ := h2 i (.i u) (by rw [hc, List.getElem?_map, hu]; rfl)
    rw [VRep.p_eq h4] at h3
    simpa using h3
   simp only [Nat.add_zero, hvl, List.append_assoc]
   by_cases hj : j < p
   ·have hx : j < xs.length := by omega
    refine .inr ⟨xs[j], ?_, ?_⟩
    ·rw [List.getElem?_append_left zT11, List.getElem?_take_of_lt hj, List.getElem?_eq_getElem hx]
    rw [List.getElem?_append_left zT11, List.getElem?_take_of_lt hj]
    exact hat j _ (List.getElem?_eq_getElem hx)
   have e1 : (xs.take p).length = p := by simp; omega
   have e2 : (arr.toList.take p).length = p := by simp; omega
   have f1 : (xs.take p ++ (us.take k ++ xs.drop (p + k)))[j]? = (us.take k ++ xs.drop (p + k))[j - p]? := by rw [List.getElem?_append_right zT15, e1]
   have f2 : (arr.toList.take p ++ (((us.take k).map fun u : Int => Value.int .i64 u) ++ arr.toList.drop (p + k)))[j]? = (((us.take k).map fun u : Int => Value.int .i64 u) ++ arr.toList.drop (p + k))[j - p]? := by rw [List.getElem?_append_right zT15, e2]
   rw [f1, f2]
   by_cases hj2 : j - p < k
   ·have hx : j - p < us.length := by omega
    refine .inr ⟨us[j - p], ?_, ?_⟩
    ·rw [List.getElem?_append_left zT11, List.getElem?_take_of_lt hj2, List.getElem?_eq_getElem hx]
    rw [List.getElem?_append_left (by rw [hvl]; exact hj2), List.getElem?_map, List.getElem?_take_of_lt hj2, List.getElem?_eq_getElem hx]; rfl
   have e3 : (us.take k).length = k := by simp; omega
   have f3 : (us.take k ++ xs.drop (p + k))[j - p]? = xs[p + k + (j - p - k)]? := by rw [List.getElem?_append_right zT15, e3, List.getElem?_drop]
   have f4 : (((us.take k).map fun u : Int => Value.int .i64 u) ++ arr.toList.drop (p + k))[j - p]? = arr.toList[p + k + (j - p - k)]? := by rw [List.getElem?_append_right (by rw [hvl]; omega), hvl, List.getElem?_drop]
   rw [f3, f4]
   cases hx : xs[p + k + (j - p - k)]? with
   | none => exact .inl rfl
   | some u => exact .inr ⟨u, rfl, hat _ u hx⟩
  simp only [List.getElem?_map] at hv
  rcases key with hn | ⟨u, h5, h6⟩
  ·rw [hn] at hv; cases hv
  rw [h5] at hv
  simp only [Option.map_some, Option.some.injEq] at hv
  subst hv
  exact ⟨_, by simpa using h6, .d _ _ (.p _)⟩
 exact hK g _ _ _ rfl (hs2.put o.dst (dok_spec hd) (.d _ _ (.p _)))
theorem own_at {x : Operand} {r n : Nat} (hx : s.ev x = some (.own r 1 n false)) : ∀ g a w, Sim c g s a w → ∃ cap, a.eval x = .slice (some ⟨(g r).1, 0, none⟩) n cap := fun g a w hs => by
 have h := hs.ev hx
 generalize hxx : a.eval x = u at h
 cases h with
 | own _ _ _ hn hcp => exact ⟨_, rfl⟩
theorem que_at {x : Operand} {r p m : Nat} (hm : 0 < m) (hx : s.ev x = some (.que r 1 p m)) : ∀ g a w, Sim c g s a w → ∃ cap, a.eval x = .slice (some ⟨(g r).1, p, none⟩) m cap := fun g a w hs => by
 have h := hs.ev hx
 generalize hxx : a.eval x = u at h
 cases h with
 | que _ _ _ _ ad cap hn hcap h =>
  obtain ⟨rfl, _⟩ := h zT15
  exact ⟨cap, by rw [Nat.mul_one]⟩
theorem d_src {x : Operand} {us : List Int} (h0 : us ≠ []) (hx : s.ev x = some (.d (.sl 1 8 (us.map fun u : Int => [D.p (.int .i64 u)])))) : ∀ g a w, Sim c g s a w → ∃ b q cap, a.eval x = .slice (some ⟨b, q, none⟩) us.length cap ∧ ∀ (j : Nat) (u : Int), us[j]? = some u → w.cell? ⟨b, q + j, none⟩ = some (.int .i64 u) := fun g a w hs => by
 have h := hs.ev hx
 generalize hxx : a.eval x = u at h
 cases h with
 | d _ _ h =>
  generalize hrow : (us.map fun u : Int => [D.p (.int .i64 u)]) = rows at h
  have hlen : rows.length = us.length := by rw [← hrow, List.length_map]
  cases h with
  | sl _ _ _ ad cap b o f hcp ha hl hc hr =>
   obtain ⟨e1, _, _⟩ := ha (by rw [← hrow]; simpa using h0)
   subst e1
   refine ⟨b, o, cap, by rw [← hlen], fun j u hu => ?_⟩
   have hj : rows[j]? = some [D.p (.int .i64 u)] := by rw [← hrow, List.getElem?_map, hu]; rfl
   have h1 := hc j 0 _ _ hj rfl
   have h2 := hr j 0 _ _ hj rfl
   have h3 : f j 0 = .int .i64 u := by
    generalize f j 0 = y at h2
    cases h2; rfl
   rw [← h3, ← h1]
   congr 2
   omega
theorem own_src {x : Operand} {r k : Nat} {us xs : List Int} {row : Row} (hx : s.ev x = some (.own r 1 k false)) (hr : fnd s.H r = some row) (hnl : row.nil = false) (hc : row.cells = xs.map V.i) (hk : k ≤ xs.length) (hu : us = xs.take k) : ∀ g a w, Sim c g s a w → ∃ b q cap, a.eval x = .slice (some ⟨b, q, none⟩) us.length cap ∧ ∀ (j : Nat) (u : Int), us[j]? = some u → w.cell? ⟨b, q + j, none⟩ = some (.int .i64 u) := fun g a w hs => by
 subst hu
 have h := hs.ev hx
 obtain ⟨arr, h1, _, h2⟩ := hs.obj r row hr hnl
 generalize hxx : a.eval x = u at h
 cases h with
 | own _ _ _ hn hcp =>
  refine ⟨_, 0, _, by rw [List.length_take, Nat.min_eq_left hk], fun j u hu => ?_⟩
  rw [List.getElem?_take] at hu
  split at hu
  ·obtain ⟨y, h3, h4⟩ := h2 j (.i u) (by rw [hc, List.getElem?_map, hu]; rfl)
   rw [VRep.p_eq h4] at h3
   rw [Nat.zero_add, cell_of_row w _ _ _ _ _ h1, h3]
  cases hu
end
theorem Fn.ofC {P : Program} {f : FuncId} {xs : List Value} {y : Value} {args : List V} {v : V} (h : ∀ w, Calls P f xs.toArray w fun e w' => e = .returned y ∧ Below w.heap.size w w') (ha : ∀ w q g zs, VReps w q g args zs → zs = xs) (hv : ∀ w q g, VRep w q g v y) (hp : v.pure) : Fn P f args (fun v' => v' = v) := by
 intro w out g zs ho hz
 obtain rfl := ha _ _ _ _ hz
 refine (h w).mono ?_
 rintro e w' ⟨rfl, hb⟩
 exact ⟨v, y, rfl, rfl, hp, hv _ _ _, hb⟩
theorem am_Mul (n : Nat) (h : n ≤ 1000000) : Fn Tryz.prog 42 [.d (.p (.int .u64 1)), .d (.p (.int .u64 (n : Int)))] (fun v => v = .tup [.d (.p (.int .u64 0)), .d (.p (.int .u64 (n : Int)))]) :=
 Fn.ofC (xs := [.int .u64 1, .int .u64 (n : Int)]) (y := .tuple #[.int .u64 0, .int .u64 (n : Int)]) (fun w => (mul_call 1 n zT14 zT15 w).mono fun e w' ⟨he, hw⟩ => ⟨by
  rw [he]
  have h1 : 1 * n / 18446744073709551616 = 0 := by omega
  have h2 : 1 * n % 18446744073709551616 = n := by omega
  rw [h1, h2]; rfl, by rw [hw]; exact Below.refl _ _⟩) (fun _ _ _ zs h => by
  obtain ⟨h1, h2⟩ := h
  match zs, h1, h2 with
  | [z, z'], _, h2 => rw [VRep.p_eq (h2 0 _ z rfl rfl), VRep.p_eq (h2 1 _ z' rfl rfl)]) (fun _ _ _ => .tup _ _ rfl fun j u z hu hz => by
  match j, hu, hz with
  | 0, hu, hz => simp at hu hz; subst hu hz; exact .d _ _ (.p _)
  | 1, hu, hz => simp at hu hz; subst hu hz; exact .d _ _ (.p _)
  | j + 2, hu, hz => simp at hu) zT8
theorem rep_put {n k m : Nat} (hm : m ≤ k) (hk : k + m ≤ n) : (List.replicate k (-1 : Int) ++ List.replicate (n - k) 0).take k ++ (List.replicate k (-1 : Int)).take m ++ (List.replicate k (-1 : Int) ++ List.replicate (n - k) 0).drop (k + m) = List.replicate (k + m) (-1 : Int) ++ List.replicate (n - (k + m)) 0 := by
 rw [List.take_left' zT16, List.take_replicate, Nat.min_eq_left hm, List.drop_append, List.drop_eq_nil_of_le zT16, List.nil_append, List.drop_replicate, List.length_replicate]
 have e1 : List.replicate (k + m) (-1 : Int) = List.replicate k (-1) ++ List.replicate m (-1) := by simp
 rw [e1, show n - k - (k + m - k) = n - (k + m) by omega]
theorem am_Repeat (n : Nat) (h1 : 1 ≤ n) (hn : n ≤ 1000000) : FnO Tryz.prog 18 [.d (intsD [-1]), .i (n : Int)] (fun v H => v = .own 901 1 n false ∧ H = [(901, ⟨3, List.replicate n (.i (-1)), false, 1⟩)]) := by
 have hmul := am_Mul n hn
 have h1l : (List.map (fun x => [D.p (Value.int IntKind.i64 x)]) [(-1 : Int)]).length = 1 := rfl
 refine FnO.intro (n := 48) ⟨Tryz.func18, rfl, rfl, rfl, rfl⟩ zT8 zT16 fun w0 out => ?_
 apply AW.sr
 refine AL.z ?_
 apply AL.nil
 try simp only [thenS, S.put, enum, List.nil_append, List.cons_append, List.append_nil, Nat.zero_add, Nat.reduceAdd]
 apply AW.seq
 apply AW.sr
 refine AL.z ?_
 (first | (refine AL.rp rfl rfl (rp_lssT rfl rfl rfl zT2) ?_) | (refine AL.rp rfl rfl (rp_lssF rfl rfl rfl zT2) ?_) | (refine AL.rp rfl rfl (rp_lss rfl rfl rfl) ?_))
 apply AL.nil
 try simp only [nd]
 refine AW.condF rfl ?_
 apply AW.skip
 try simp only [thenS]
 apply AW.sr
 refine AL.z ?_
 (first | (refine AL.rp rfl rfl (rp_len_map Tryz.underlying42 rfl rfl zT13) ?_) | (refine AL.rp rfl rfl (rp_len_own Tryz.underlying42 rfl rfl) ?_) | (refine AL.rp rfl rfl (rp_len_sl Tryz.underlying42 rfl rfl) ?_) | (refine AL.rp rfl rfl (rp_len_nil Tryz.underlying42 rfl rfl) ?_) | (refine AL.rp rfl rfl (rp_len_str Tryz.underlying42 rfl rfl) ?_) | (refine AL.rp rfl rfl (rp_len_que Tryz.underlying42 rfl rfl) ?_))
 refine AL.rp rfl rfl (rp_conv Tryz.underlying3 (by intro e h; cases h) (by intro h; cases h) Tryz.underlying77 rfl rfl (r := _) (by first | (rw [wrap8]; omega) | (rw [wrap8]; dsimp only; omega) | (rw [wrap16]; omega) | (rw [wrap64 zT15] <;> omega) | (rw [wrapU64 zT15] <;> omega))) ?_
 refine AL.z ?_
 refine AL.rp rfl rfl (rp_conv Tryz.underlying3 (by intro e h; cases h) (by intro h; cases h) Tryz.underlying77 rfl rfl (r := _) (by first | (rw [wrap8]; omega) | (rw [wrap8]; dsimp only; omega) | (rw [wrap16]; omega) | (rw [wrap64 zT15] <;> omega) | (rw [wrapU64 zT15] <;> omega))) ?_
 refine AL.call (post := ?pc0) rfl (sm_call (args := [_, _]) ?hc0 ⟨Tryz.func42, rfl, rfl, rfl, rfl⟩ rfl rfl rfl rfl) ?_
 case hc0 => exact hmul
 rintro _ rfl -
 try dsimp only
 iterate 5 refine AL.z ?_
 apply AL.nil
 try simp only [nd, setL, V.cs, nz, Nat.reduceAdd, nm, ns]
 apply AW.seq
 apply AW.sr
 refine AL.z ?_
 (first | (refine AL.rp rfl rfl (rp_gtrT rfl rfl rfl zT2) ?_) | (refine AL.rp rfl rfl (rp_gtrF rfl rfl rfl zT2) ?_) | (refine AL.rp rfl rfl (rp_gtr rfl rfl rfl) ?_))
 refine AL.z ?_
 (first | (refine AL.noV rfl rfl rfl rfl ?_) | (refine AL.noU rfl ⟨_, rfl, rfl⟩ rfl ?_) | (refine AL.rpy rfl rfl rfl (rp_move rfl rfl) ?_))
 (first | (refine AL.noV rfl rfl rfl rfl ?_) | (refine AL.noU rfl ⟨_, rfl, rfl⟩ rfl ?_) | (refine AL.rpy rfl rfl rfl (rp_gtrT rfl rfl rfl zT2) ?_) | (refine AL.rpy rfl rfl rfl (rp_gtrF rfl rfl rfl zT2) ?_) | (refine AL.rpy rfl rfl rfl (rp_gtr rfl rfl rfl) ?_))
 refine AL.z ?_
 apply AL.nil
 try simp only [nd]
 refine AW.condF rfl ?_
 apply AW.skip
 try simp only [thenS]
 apply AW.sr
 refine AL.z ?_
 refine AL.rp rfl rfl (rp_conv Tryz.underlying77 (by intro e h; cases h) (by intro h; cases h) Tryz.underlying3 rfl rfl (r := _) (by first | (rw [wrap8]; omega) | (rw [wrap8]; dsimp only; omega) | (rw [wrap16]; omega) | (rw [wrap64 zT15] <;> omega) | (rw [wrapU64 zT15] <;> omega))) ?_
 refine AL.sm rfl (sm_make_map 901 V.i (0) Tryz.underlying42 inf3 rfl rfl rfl rfl rfl zT15 zT14 zT0 rfl) ?_
 refine AL.z ?_
 apply AL.nil
 try simp only [nd, setL, V.cs, nz, Nat.reduceAdd, nm, ns]
 apply AW.sr
 iterate 2 refine AL.z ?_
 refine AL.st rfl (st_copyI (r := 901) (p := 0) (m := n) (k := 1) (us := [-1]) (xs := List.replicate n 0) Tryz.underlying42 inf3 rfl (own_at rfl) (d_src zT16 rfl) rfl rfl zT16 zT16 zT11 rfl) ?_
 refine AL.z ?_
 apply AL.nil
 try simp only [nd, setL, V.cs, nz, Nat.reduceAdd, nm, ns]
 apply AW.seq
 apply AW.block
 have e0 : (List.replicate 1 (-1 : Int) ++ List.replicate (n - 1) 0).map V.i = V.i (-1) :: ((List.replicate n (0 : Int)).drop 1).map V.i := by simp
 clear hmul
 refine AW.loop (fun s' => ∃ k : Nat, 1 ≤ k ∧ k ≤ n ∧ s' = ⟨48, [(7, .own 901 1 n false), (8, .i k)], [(901, ⟨3, (List.replicate k (-1 : Int) ++ List.replicate (n - k) 0).map V.i, false, 1⟩)], []⟩) (fun s' => n - s'.nat 8) ⟨_, ?_, 1, by omega, h1, rfl⟩ ?_
 ·rw [e0]; exact Less.a0
 rintro s' ⟨k, hk1, hk, rfl⟩
 by_cases hlt : k < n
 ·skip
  apply AW.seq
  apply AW.sr
  iterate 2 refine AL.z ?_
  (first | (refine AL.rp rfl rfl (rp_len_map Tryz.underlying42 rfl rfl zT13) ?_) | (refine AL.rp rfl rfl (rp_len_own Tryz.underlying42 rfl rfl) ?_) | (refine AL.rp rfl rfl (rp_len_sl Tryz.underlying42 rfl rfl) ?_) | (refine AL.rp rfl rfl (rp_len_nil Tryz.underlying42 rfl rfl) ?_) | (refine AL.rp rfl rfl (rp_len_str Tryz.underlying42 rfl rfl) ?_) | (refine AL.rp rfl rfl (rp_len_que Tryz.underlying42 rfl rfl) ?_))
  (first | (refine AL.rp rfl rfl (rp_lssT rfl rfl rfl zT2) ?_) | (refine AL.rp rfl rfl (rp_lssF rfl rfl rfl zT2) ?_) | (refine AL.rp rfl rfl (rp_lss rfl rfl rfl) ?_))
  apply AL.nil
  try simp only [nd]
  refine AW.condT rfl ?_
  apply AW.skip
  try simp only [thenS]
  apply AW.block
  refine AW.drawT (N := ?N2) (l := #[false, false, false, false, false, false, false, false, false, false]) 10 zT12 rfl rfl ?_ ?_
  rotate_left
  refine AN.rp (i := 0) (l' := #[true, false, false, false, false, false, false, false, false, false]) rfl rfl rfl (fun _ _ h => h) zT12 rfl (rp_move rfl rfl) ?_
  refine AN.rp (i := 1) (l' := #[true, true, false, false, false, false, false, false, false, false]) rfl rfl rfl (fun _ _ h => h) zT12 rfl (rp_move rfl rfl) ?_
  refine AN.rp (i := 2) (l' := #[true, true, true, false, false, false, false, false, false, false]) rfl rfl rfl (fun _ _ h => h) zT12 rfl (rp_move rfl rfl) ?_
  refine AN.rp (i := 4) (l' := #[true, true, true, false, true, false, false, false, false, false]) rfl rfl rfl (fun _ _ h => h) zT12 rfl (rp_move rfl rfl) ?_
  refine AN.rp (i := 5) (l' := #[true, true, true, false, true, true, false, false, false, false]) rfl rfl rfl (fun _ _ h => h) zT12 rfl (rp_move rfl rfl) ?_
  refine AN.br2 (i := 3) (j := 6) zT12 ?_ ?_
  ·refine BR.mk (l' := #[true, true, true, true, true, true, false, false, false, false]) rfl rfl rfl ?_
   refine ST.rd rfl (rd_slice_ownFrom (j := k) Tryz.underlying42 inf3 rfl rfl rfl rfl zT15) ?_
   refine AN.br1 (i := 6) zT12 ?_
   refine BR.mk (l' := #[true, true, true, true, true, true, true, false, false, false]) rfl rfl rfl ?_
   refine ST.rd rfl (rp_slice_own Tryz.underlying42 inf3 rfl rfl rfl (by first | rfl | omega) zT15) ?_
   refine AN.br1 (i := 7) zT12 ?_
   refine BR.mk (l' := #[true, true, true, true, true, true, true, true, false, false]) rfl rfl rfl ?_
   refine ST.st (st_copyI (r := 901) (p := k) (m := n - k) (k := min k (n - k)) (us := List.replicate k (-1 : Int)) (xs := List.replicate k (-1 : Int) ++ List.replicate (n - k) 0) Tryz.underlying42 inf3 rfl (que_at zT15 rfl) (own_src rfl rfl rfl rfl zT16 (by rw [List.take_left' zT16])) rfl rfl rfl (by simp only [List.length_append, List.length_replicate]; omega) (by rw [List.length_replicate]) rfl) ?_
   refine AN.rp (i := 8) (l' := #[true, true, true, true, true, true, true, true, true, false]) rfl rfl rfl (fun _ _ h => h) zT12 rfl (rp_add rfl rfl rfl zT6) ?_
   refine AN.rp (i := 9) (l' := #[true, true, true, true, true, true, true, true, true, true]) rfl rfl rfl (fun _ _ h => h) zT12 rfl (rp_assign rfl rfl) ?_
   refine AN.nil zT12 ?_
   show Less _ _
   exact Less.dd _
  ·refine BR.mk (l' := #[true, true, true, false, true, true, true, false, false, false]) rfl rfl rfl ?_
   refine ST.rd rfl (rp_slice_own Tryz.underlying42 inf3 rfl rfl rfl (by first | rfl | omega) zT15) ?_
   refine AN.br1 (i := 3) zT12 ?_
   refine BR.mk (l' := #[true, true, true, true, true, true, true, false, false, false]) rfl rfl rfl ?_
   refine ST.rd rfl (rd_slice_ownFrom (j := k) Tryz.underlying42 inf3 rfl rfl rfl rfl zT15) ?_
   refine AN.br1 (i := 7) zT12 ?_
   refine BR.mk (l' := #[true, true, true, true, true, true, true, true, false, false]) rfl rfl rfl ?_
   refine ST.st (st_copyI (r := 901) (p := k) (m := n - k) (k := min k (n - k)) (us := List.replicate k (-1 : Int)) (xs := List.replicate k (-1 : Int) ++ List.replicate (n - k) 0) Tryz.underlying42 inf3 rfl (que_at zT15 rfl) (own_src rfl rfl rfl rfl zT16 (by rw [List.take_left' zT16])) rfl rfl rfl (by simp only [List.length_append, List.length_replicate]; omega) (by rw [List.length_replicate]) rfl) ?_
   refine AN.rp (i := 8) (l' := #[true, true, true, true, true, true, true, true, true, false]) rfl rfl rfl (fun _ _ h => h) zT12 rfl (rp_add rfl rfl rfl zT6) ?_
   refine AN.rp (i := 9) (l' := #[true, true, true, true, true, true, true, true, true, true]) rfl rfl rfl (fun _ _ h => h) zT12 rfl (rp_assign rfl rfl) ?_
   refine AN.nil zT12 ?_
   show Less _ _
   (try simp only [S.put, S.newObj, setL, V.cs, nz, Nat.zero_add, Nat.reduceAdd, nm, ns])
   try simp only [S.dd, ddL, List.contains_cons, List.contains_nil, Nat.reduceBEq, beq_self_eq_true, Bool.or_false, Bool.or_true, Bool.false_or, Bool.true_or, Bool.or_self, if_true, if_false, Bool.false_eq_true, ↓reduceIte]
   exact Less.a2
  (try simp only [S.put, S.newObj, setL, V.cs, nz, Nat.zero_add, Nat.reduceAdd, nm, ns])
  try simp only [S.dd, ddL, List.contains_cons, List.contains_nil, Nat.reduceBEq, beq_self_eq_true, Bool.or_false, Bool.or_true, Bool.false_or, Bool.true_or, Bool.or_self, if_true, if_false, Bool.false_eq_true, ↓reduceIte]
  try simp only [nd, setL, V.cs, nz, Nat.reduceAdd, nm, ns]
  have hput := rep_put (n := n) (k := k) (m := min k (n - k)) zT15 zT15
  refine ⟨_, ?_, ⟨k + min k (n - k), by omega, by omega, rfl⟩, ?_⟩
  ·rw [← hput]; exact Less.a0
  simp [S.nat, fnd]; omega
 obtain rfl : k = n := by omega
 apply AW.seq
 apply AW.sr
 iterate 2 refine AL.z ?_
 (first | (refine AL.rp rfl rfl (rp_len_map Tryz.underlying42 rfl rfl zT13) ?_) | (refine AL.rp rfl rfl (rp_len_own Tryz.underlying42 rfl rfl) ?_) | (refine AL.rp rfl rfl (rp_len_sl Tryz.underlying42 rfl rfl) ?_) | (refine AL.rp rfl rfl (rp_len_nil Tryz.underlying42 rfl rfl) ?_) | (refine AL.rp rfl rfl (rp_len_str Tryz.underlying42 rfl rfl) ?_) | (refine AL.rp rfl rfl (rp_len_que Tryz.underlying42 rfl rfl) ?_))
 (first | (refine AL.rp rfl rfl (rp_lssT rfl rfl rfl zT2) ?_) | (refine AL.rp rfl rfl (rp_lssF rfl rfl rfl zT2) ?_) | (refine AL.rp rfl rfl (rp_lss rfl rfl rfl) ?_))
 apply AL.nil
 try simp only [nd]
 refine AW.condF rfl ?_
 refine AW.exit ?_
 try simp only [thenS, inBlockS, ↓reduceIte, Nat.reduceEqDiff]
 apply AW.sr
 iterate 2 refine AL.z ?_
 apply AL.nil
 try simp only [nd]
 apply AW.ret
 have e1 : (List.replicate k (-1 : Int) ++ List.replicate (k - k) 0).map V.i = List.replicate k (V.i (-1)) := by simp
 rw [e1]
 exact ⟨[_], [(901, ⟨3, List.replicate k (.i (-1)), false, 1⟩)], ⟨rfl, trivial⟩, ⟨rfl, trivial⟩, ⟨rfl, rfl⟩, by simp [tupOf, V.has, V.hasL], fun r row j h1 h2 => by
  simp only [fnd] at h1
  split at h1
  ·cases h1
   simp only at h2
   have : V.hasL j (List.replicate k (V.i (-1))) = false := by
    rw [V.hasL_false]
    intro v hv
    rw [List.eq_of_mem_replicate hv]; rfl
   rw [this] at h2; cases h2
  cases h1⟩
abbrev P2 : Type := Int × Int
abbrev encP (p : P2) : Value := .agg #[.int .i64 p.1, .int .i64 p.2]
theorem range2 : List.range' 0 2 = [0, 1] := rfl
theorem eqP1 (n : Nat) (a1 a2 b1 b2 : Int) (w : World) : (Op.equalIn (n + 2) 62 (.agg #[.int .i64 a1, .int .i64 a2]) (.agg #[.int .i64 b1, .int .i64 b2])).run Tryz.prog w = .ok (decide (a1 = b1) && decide (a2 = b2)) w := by
 have hi : ∀ (x y : Int) (w : World), (Op.equalIn (n + 1) 3 (.int .i64 x) (.int .i64 y)).run Tryz.prog w = .ok (x == y) w := fun x y w => by simp [go_sem]
 unfold Op.equalIn
 simp only [Sem.run_bind, run_underlying Tryz.underlying62, Result.andThen_ok]
 by_cases h1 : a1 = b1 <;> by_cases h2 : a2 = b2 <;> simp [range2, go_sem, hi, h1, h2]
theorem eqP0 (a1 a2 b1 b2 : Int) (w : World) : (Op.equalIn 10000 62 (.agg #[.int .i64 a1, .int .i64 a2]) (.agg #[.int .i64 b1, .int .i64 b2])).run Tryz.prog w = .ok (decide (a1 = b1) && decide (a2 = b2)) w := eqP1 9998 a1 a2 b1 b2 w
theorem eqP (a b : P2) (w : World) : (Op.equal 62 (encP a) (encP b)).run Tryz.prog w = .ok (decide (a = b)) w := by
 obtain ⟨a1, a2⟩ := a
 obtain ⟨b1, b2⟩ := b
 refine (eqP0 a1 a2 b1 b2 w).trans ?_
 congr 1
 rw [Bool.eq_iff_iff]
 simp
theorem checkP (b : Bool) (a : P2) (w : World) : (Instr.checkKey b 10000 62 (encP a)).run Tryz.prog w = .ok () w := by
 have : ∀ n : Nat, (Instr.checkKey b (n + 2) 62 (encP a)).run Tryz.prog w = .ok () w := fun n => by
  have hi : ∀ (x : Int) (w : World), (Instr.checkKey b (n + 1) 3 (.int .i64 x)).run Tryz.prog w = .ok () w := fun x w => by simp [Instr.checkKey, go_sem]
  unfold Instr.checkKey
  simp only [Sem.run_bind, run_underlying Tryz.underlying62, Result.andThen_ok]
  simp [range2, encP, go_sem, hi]
 exact this 9998
theorem askP (a : P2) (w : World) : ∀ (l : List (P2 × Int)) (i j : Nat), (Instr.findAsking 62 (encP a) (((mrows encP l).zipIdx j).map fun x => ({ key := x.1.1, val := x.1.2, born := x.2 } : MapEntry)) i).run Tryz.prog w = .ok ((mfind l a i).map fun x => (x.1, .int .i64 x.2)) w
 | [], i, j => by simp [Instr.findAsking, mrows, mfind]
 | (k, v) :: l, i, j => by
  have ih := askP a w l (i + 1) (j + 1)
  simp only [mrows, List.map_cons, List.zipIdx_cons, Instr.findAsking, Sem.run_bind, eqP, Result.andThen_ok, mfind] at ih ⊢
  by_cases e : a = k
  ·subst e; simp
  simp only [e, decide_false, if_false]
  simpa [mrows] using ih
theorem keyOk62 : KeyOk Tryz.prog 62 encP := by
 refine ⟨checkP, fun l a w => ?_, fun a => ?_⟩
 ·have hnow : ∀ (l : List (P2 × Int)) (j : Nat), l ≠ [] → ∀ n e, Instr.findNow (.array n e) (encP a) (((mrows encP l).zipIdx j).map fun x => ({ key := x.1.1, val := x.1.2, born := x.2 } : MapEntry)) 0 = none := by
   intro l j hl n e
   cases l with
   | nil => exact absurd rfl hl
   | cons x l => simp [mrows, List.zipIdx_cons, Instr.findNow, Instr.sameNow]
  simp only [Instr.findKey, Sem.run_bind, run_underlying Tryz.underlying62, Result.andThen_ok, ments, List.toList_toArray]
  by_cases hl : l = []
  ·subst hl; simp [mrows, Instr.findNow, mfind]
  rw [hnow l 0 hl]
  exact askP a w l 0 0
 have : ∀ n : Nat, Instr.sameBits (n + 2) (encP a) (encP a) = true := fun n => by simp [Instr.sameBits]
 exact this 9998
theorem keyE62 {w : World} {q : Nat → Prop} {g : Nat → Nat × Nat} {a b : Int} {v : Value} (h : VRep w q g (.agg [.i a, .i b]) v) : v = encP (a, b) := by
 cases h with
 | agg _ cs hl h =>
  match cs, hl with
  | [x, y], _ =>
   rw [VRep.p_eq (h 0 _ _ rfl rfl), VRep.p_eq (h 1 _ _ rfl rfl)]
theorem cmp_neq_62F {c : Cx} {s : S} {o : Oper} {t' : TypeId} {x y : Operand} {a1 a2 b1 b2 : Int} {r : Bool} (hP : c.P = Tryz.prog) (ho : o.op = .binOp .neq 62 x y t') (hx : s.ev x = some (.agg [.i a1, .i a2])) (hy : s.ev y = some (.agg [.i b1, .i b2])) (h : (!(decide (a1 = b1) && decide (a2 = b2))) = r) : RP c o s (.b r) := by
 subst h
 refine rp_bin_agg [.int .i64 a1, .int .i64 a2] [.int .i64 b1, .int .i64 b2] ho hx hy (fun w => ?_) (fun w => ?_)
 ·rw [hP]; simp [go_sem]
 rw [hP]
 have h2 : (Op.equal 62 (.agg #[.int .i64 a1, .int .i64 a2]) (.agg #[.int .i64 b1, .int .i64 b2])).run Tryz.prog w = _ := eqP0 a1 a2 b1 b2 w
 simp only [binOp, Sem.run_bind, h2, Result.andThen_ok]
 rfl
theorem upM_agg2 (r : Nat) (l : List (Value × Value)) (a b : Value) : upM r l (.agg [.d (.p a), .d (.p b)]) = .agg [.d (.p a), .d (.p b)] := rfl
section
variable {c : Cx} {s : S} {o : Oper} {K : Type} [DecidableEq K] {enc : K → Value}
theorem rd_lookup0 {t k e : TypeId} {bt : Nat} {x y : Operand} {r N : Nat} {l : List (K × Int)} {key : K} {v : Int} (hk : KeyOk c.P k enc) (hu : c.P.underlying t = some (.map k e)) (hi : Inf c.P e 1 bt (.int .i64 0)) (ho : o.op = .lookup t x y false) (hx : s.ev x = some (.mp r N (mrows enc l)) ∨ s.ev x = some (.d (.mp (mrows enc l)))) (hy : ∀ g a w, Sim c g s a w → a.eval y = enc key)
  (hv : (mget l key).getD 0 = v) : RD c o s (.i v) := rd_lookup (ok := false) hk hu hi ho hx hy (by rw [hv]; rfl)
end
theorem am_order (a b : Ar) : Fn Tryz.prog 32 [.agg ((arD a).map V.d), .agg ((arD b).map V.d)] (fun v => v = .i (ordC a b)) := by
 obtain ⟨ai, ao, aw, at'⟩ := a
 obtain ⟨bi, bo, bw, bt⟩ := b
 refine Fn.intro (n := 27) ⟨Tryz.func32, rfl, rfl, rfl, rfl⟩ zT8 zT16 fun w0 out => ?_
 apply AW.sr
 refine AL.sm rfl (sm_box 2 rfl rfl rfl rfl rfl) ?_
 refine AL.sm rfl (sm_box 3 rfl rfl rfl rfl rfl) ?_
 refine AL.z ?_
 apply AL.nil
 try simp only [nd, setL, V.cs, nz, Nat.reduceAdd, nm, ns, enum]
 apply AW.seq
 refine AW.draw [(0, true), (1, true), (2, true), (3, true), (5, true), (6, true), (7, true), (8, true), (10, true), (11, true), (12, true), (13, true), (15, true), (16, true), (17, true), (18, true), (4, false), (9, false), (14, false), (19, false), (20, false), (21, false), (22, false)] (fun i => !([] : List Nat).contains i) 23 zT12 zT12 rfl zT12 ?_
 iterate 16 refine AD1.z ?_
 refine AD1.go ?_
 refine AD2.call (post := ?pc8) rfl rfl (sm_call (args := [_, _]) ?hc8 ⟨Tryz.func70, rfl, rfl, rfl, rfl⟩ rfl rfl rfl rfl) ?_
 case hc8 => exact am_cmp ai bi
 rintro _ rfl -
 try dsimp only
 refine AD2.call (post := ?pc9) rfl rfl (sm_call (args := [_, _]) ?hc9 ⟨Tryz.func70, rfl, rfl, rfl, rfl⟩ rfl rfl rfl rfl) ?_
 case hc9 => exact am_cmp ao bo
 rintro _ rfl -
 try dsimp only
 refine AD2.call (post := ?pc10) rfl rfl (sm_call (args := [_, _]) ?hc10 ⟨Tryz.func70, rfl, rfl, rfl, rfl⟩ rfl rfl rfl rfl) ?_
 case hc10 => exact am_cmp at' bt
 rintro _ rfl -
 try dsimp only
 refine AD2.call (post := ?pc11) rfl rfl (sm_call (args := [_, _]) ?hc11 ⟨Tryz.func70, rfl, rfl, rfl, rfl⟩ rfl rfl rfl rfl) ?_
 case hc11 => exact am_cmp aw bw
 rintro _ rfl -
 try dsimp only
 refine AD2.sm rfl rfl (sm_slice (vs := [(0, _), (1, _), (2, _), (3, _)]) (zs := [.d (.p (.int .i64 0)), .d (.p (.int .i64 0)), .d (.p (.int .i64 0)), .d (.p (.int .i64 0))]) 25 Tryz.underlying42 inf3 rfl rfl zT14 zT14 zT14 rfl rfl rfl rfl rfl rfl rfl) ?_
 refine AD2.call (post := ?pc12) rfl rfl (sm_callr (args := ?ac12) (us := [_]) ?hc12 ?qc12 ⟨Tryz.func69, rfl, rfl, rfl, rfl⟩ rfl rfl rfl ?rc12 rfl) ?_
 case hc12 => exact am_Or [cmpI ai bi, cmpI ao bo, cmpI at' bt, cmpI aw bw]
 case qc12 => (intro v hv; first | (subst hv; first | trivial | (simp [V.plain]; done)) | (obtain ⟨_, rfl, _⟩ := hv; first | trivial | (simp [V.plain]; done)))
 case rc12 => exact .cons (.own 25 1 4 8 false _ ([cmpI ai bi, cmpI ao bo, cmpI at' bt, cmpI aw bw].map fun x => [D.p (.int .i64 x)]) rfl rfl rfl zT14 (rows1 (f := fun x => D.p (.int .i64 x)) (by simp [setL, V.cs]))) .nil
 rintro _ rfl -
 try dsimp only
 refine AD2.rp1 rfl rfl rfl (rp_assign rfl rfl) ?_
 refine AD2.nil ?_
 try simp only [nd, setL, V.cs, nz, Nat.reduceAdd, nm, ns]
 apply AW.ret
 exact ⟨[_], ⟨rfl, trivial⟩, rfl, by simp [tupOf, V.pure, V.has]⟩
theorem am_sorted (l : List Ar) (hb : l.length ≤ 400) : Fn Tryz.prog 31 [.d (arsD l), .fn 32 []] (fun v => v = .b (srtN l l.length)) := by
 rw [← adj_srt, adj_end (show l.length ≤ l.length + 1 by omega)]
 obtain ⟨n, hn⟩ : ∃ n, l.length = n := ⟨_, rfl⟩
 rw [hn] at hb ⊢
 obtain ⟨B, hB⟩ : ∃ B, adjN l (n - 1) = B := ⟨_, rfl⟩
 rw [hB]
 refine Fn.intro (n := 25) ⟨Tryz.func31, rfl, rfl, rfl, rfl⟩ zT8 zT16 fun w0 out => ?_
 apply AW.sr
 refine AL.z ?_
 apply AL.nil
 try simp only [thenS, S.put, enum, List.nil_append, List.cons_append, List.append_nil, Nat.zero_add, Nat.reduceAdd]
 apply AW.seq
 apply AW.sr
 iterate 4 refine AL.z ?_
 apply AL.nil
 try simp only [nd]
 apply AW.block
 refine AW.loop (fun s' => ∃ z : Int, -1 ≤ z ∧ z ≤ (n : Int) - 1 ∧ adjN l z.toNat = B ∧ s' = ⟨25, [(0, .d (arsD l)), (1, .fn 32 []), (5, .i z)], [], []⟩) (fun s' => s'.nat 5) ⟨_, ?_, (n : Int) - 1, by omega, by omega, by rw [show ((n : Int) - 1).toNat = n - 1 by omega]; exact hB, rfl⟩ ?_
 ·exact Less.a0
 rintro s' ⟨z, hz1, hz2, hz, rfl⟩
 by_cases hz0 : z > 0
 ·obtain ⟨k, rfl⟩ : ∃ k : Nat, z = ((k + 1 : Nat) : Int) := ⟨z.toNat - 1, by omega⟩
  obtain ⟨a, ha⟩ := get_lt hn (show k + 1 < n by omega)
  obtain ⟨b, hb'⟩ := get_lt hn (show k < n by omega)
  have hk1 : ((k + 1 : Nat) : Int) - 1 = (k : Int) := by omega
  rw [Int.toNat_natCast] at hz
  simp only [adjN, if_pos (show k + 1 < l.length by omega), arAt_of ha, arAt_of hb'] at hz
  have hcon := am_order a b
  have hneg := ordC_neg a b
  obtain ⟨oc, hoc⟩ : ∃ oc, ordC a b = oc := ⟨_, rfl⟩
  rw [hoc] at hcon hneg
  clear hoc
  cases hah : ahd a b with
  | true =>
   rw [hah] at hz hneg
   have h0 : oc < 0 := hneg.2 rfl
   obtain rfl : B = false := by rw [← hz]; rfl
   apply AW.seq
   apply AW.sr
   iterate 2 refine AL.z ?_
   apply AL.nil
   try simp only [nd]
   refine AW.condT rfl ?_
   apply AW.skip
   try simp only [thenS]
   apply AW.seq
   apply AW.block
   apply AW.seq
   refine AW.draw [(0, true), (1, true), (2, true), (3, true), (4, true), (5, true), (6, true), (7, true), (8, true), (9, true), (10, false), (11, false)] (fun i => !([] : List Nat).contains i) 12 zT12 zT12 rfl zT12 ?_
   iterate 8 refine AD1.z ?_
   refine AD1.rp rfl rfl rfl (fun _ _ h => h) (rp_index_map (k := k) Tryz.underlying33 inf47 rfl rfl rfl zT15 zT13) ?_
   refine AD1.z ?_
   refine AD1.go ?_
   refine AD2.call (post := ?pc13) rfl rfl (sm_callv (args := [_, _]) ?hc13 ⟨Tryz.func32, rfl, rfl, rfl, rfl⟩ rfl rfl rfl rfl) ?_
   case hc13 => exact hcon
   rintro _ rfl -
   try dsimp only
   (refine AD2.rp1 rfl rfl rfl (rp_lssT rfl rfl rfl zT2) ?_)
   refine AD2.nil ?_
   try simp only [nd, setL, V.cs, nz, Nat.reduceAdd, nm, ns]
   refine AW.condT rfl ?_
   apply AW.sr
   refine AL.z ?_
   apply AL.nil
   try simp only [nd]
   apply AW.ret
   exact ⟨[_], ⟨rfl, trivial⟩, rfl, by simp [tupOf, V.pure, V.has]⟩
  | false =>
   rw [hah] at hz hneg
   have h0 : ¬ oc < 0 := fun h => by have := hneg.1 h; cases this
   have hz' : adjN l k = B := by rw [← hz]; simp
   apply AW.seq
   apply AW.sr
   iterate 2 refine AL.z ?_
   apply AL.nil
   try simp only [nd]
   refine AW.condT rfl ?_
   apply AW.skip
   try simp only [thenS]
   apply AW.seq
   apply AW.block
   apply AW.seq
   refine AW.draw [(0, true), (1, true), (2, true), (3, true), (4, true), (5, true), (6, true), (7, true), (8, true), (9, true), (10, false), (11, false)] (fun i => !([] : List Nat).contains i) 12 zT12 zT12 rfl zT12 ?_
   iterate 8 refine AD1.z ?_
   refine AD1.rp rfl rfl rfl (fun _ _ h => h) (rp_index_map (k := k) Tryz.underlying33 inf47 rfl rfl rfl zT15 zT13) ?_
   refine AD1.z ?_
   refine AD1.go ?_
   refine AD2.call (post := ?pc14) rfl rfl (sm_callv (args := [_, _]) ?hc14 ⟨Tryz.func32, rfl, rfl, rfl, rfl⟩ rfl rfl rfl rfl) ?_
   case hc14 => exact hcon
   rintro _ rfl -
   try dsimp only
   (refine AD2.rp1 rfl rfl rfl (rp_lssF rfl rfl rfl zT2) ?_)
   refine AD2.nil ?_
   try simp only [nd, setL, V.cs, nz, Nat.reduceAdd, nm, ns]
   refine AW.condF rfl ?_
   apply AW.skip
   try simp only [thenS]
   apply AW.region
   iterate 3 refine AL.z ?_
   apply AL.nil
   try simp only [nd]
   refine ⟨_, ?_, ⟨k, by omega, by omega, by rw [Int.toNat_natCast]; exact hz', rfl⟩, ?_⟩
   ·rw [← hk1]; exact Less.a0
   simp [S.nat, fnd]
 obtain rfl : B = true := by rw [← hz, show z.toNat = 0 by omega]; rfl
 apply AW.seq
 apply AW.sr
 iterate 2 refine AL.z ?_
 apply AL.nil
 try simp only [nd]
 refine AW.condF rfl ?_
 refine AW.exit ?_
 try simp only [thenS, inBlockS, ↓reduceIte, Nat.reduceEqDiff]
 apply AW.sr
 refine AL.z ?_
 apply AL.nil
 try simp only [nd]
 apply AW.ret
 exact ⟨[_], ⟨rfl, trivial⟩, rfl, by simp [tupOf, V.pure, V.has]⟩
def prV (m : Mach) : V := if machE m = 0 then .agg [.b (bA m.states), .b (bFl m.states), .b (bDi m.states && bFl m.states), .b (bSo m.states), .b (bPl m.states)] else .agg [.b false, .b false, .b false, .b false, .b false]
theorem prV_ok {m : Mach} (h : machE m = 0) : prV m = .agg [.b (bA m.states), .b (bFl m.states), .b (bDi m.states && bFl m.states), .b (bSo m.states), .b (bPl m.states)] := by unfold prV; rw [if_pos h]
theorem prV_no {m : Mach} (h : machE m ≠ 0) : prV m = .agg [.b false, .b false, .b false, .b false, .b false] := by unfold prV; rw [if_neg h]
theorem cert_dec {k : Nat} {M : List (P2 × Int)} {l : List Ar} {i : Nat} {y : Ar} (h : Seen M (l.take i)) (hk : cntP (y.i, y.o) (l.take i) = k) : (mget (mput M (y.i, y.o) ((k : Int) + 1)) (y.i, y.o)).getD 0 = (k : Int) + 1 := by
 rw [mget_mput, if_pos rfl]; rfl
theorem am_Bits (m : Mach) : Fn Tryz.prog 14 [mV m] (fun v => v = .tup [prV m, .i (machE m)]) := by
 by_cases h0 : machE m = 0
 ·obtain ⟨h60, h400, hst, hz⟩ := machE_zero h0
  rw [prV_ok h0, h0]
  obtain ⟨st, sts⟩ := m
  simp only at h60 h400 hst hz ⊢
  have hal4 : ∀ x ∈ sts, x.arcs.length ≤ 400 := fun x hx => Nat.le_trans (arcN_mem sts x hx) h400
  obtain ⟨n, hn⟩ : ∃ n, sts.length = n := ⟨_, rfl⟩
  rw [hn] at h60
  clear h400 hst
  refine Fn.intro (n := 111) ⟨Tryz.func14, rfl, rfl, rfl, rfl⟩ zT8 zT16 fun w0 out => ?_
  apply AW.sr
  refine AL.sm rfl (sm_box 1 rfl rfl rfl rfl rfl) ?_
  refine AL.sm rfl (sm_alloc (l := [.d (.p (.bool false)), .d (.p (.bool false)), .d (.p (.bool false)), .d (.p (.bool false)), .d (.p (.bool false))]) 2 inf37 rfl rfl rfl rfl) ?_
  refine AL.z ?_
  apply AL.nil
  try simp only [nd, setL, V.cs, nz, Nat.reduceAdd, nm, ns, enum]
  apply AW.seq
  apply AW.sr
  refine AL.z ?_
  refine AL.call (post := ?pc15) rfl (sm_call (args := [_]) ?hc15 ⟨Tryz.func27, rfl, rfl, rfl, rfl⟩ rfl rfl rfl rfl) ?_
  case hc15 => exact Fn.eqi (am_Check ⟨st, sts⟩) h0
  rintro _ rfl -
  try dsimp only
  refine AL.z ?_
  apply AL.nil
  try simp only [nd, setL, V.cs, nz, Nat.reduceAdd, nm, ns]
  apply AW.sr
  iterate 2 refine AL.z ?_
  apply AL.nil
  try simp only [nd]
  refine AW.condF rfl ?_
  apply AW.skip
  try simp only [thenS]
  apply AW.sr
  refine AL.rp rfl rfl (rp_build (vs := [(0, _), (1, _), (2, _), (3, _), (4, _)]) (zs := [.d (.p (.bool false)), .d (.p (.bool false)), .d (.p (.bool false)), .d (.p (.bool false)), .d (.p (.bool false))]) pl37 inf37 rfl rfl rfl rfl) ?_
  refine AL.sm rfl (sm_alloc (l := [.d (.p (.bool false)), .d (.p (.bool false)), .d (.p (.bool false)), .d (.p (.bool false)), .d (.p (.bool false))]) 5 inf37 rfl rfl rfl rfl) ?_
  refine AL.y ?_
  apply AL.nil
  try simp only [nd, setL, V.cs, nz, Nat.reduceAdd, nm, ns]
  apply AW.seq
  apply AW.sr
  iterate 4 refine AL.z ?_
  apply AL.nil
  try simp only [nd]
  apply AW.block
  refine AW.loop (fun s' => ∃ (q : Nat) (u1 u2 u3 u4 u5 : Bool), q ≤ n ∧ u1 = ((sts.take q).all fun s => s.arcs.all fA) ∧ u2 = ((sts.take q).all fun s => s.arcs.all fF) ∧ u3 = ((sts.take q).all fun s => disN s.arcs s.arcs.length) ∧ u4 = ((sts.take q).all fun s => srtN s.arcs s.arcs.length) ∧ u5 = ((sts.take q).all fun s => fP s.fin && s.arcs.all fW) ∧ s' = ⟨111, [(1, .ref 1 0), (2, .ref 2 0), (5, .ref 5 0), (20, .d (stsD sts)), (21, .i n), (22, .i q)], [(1, ⟨24, [.i st, .d (stsD sts)], false, 0⟩), (2, ⟨37, [.b false, .b false, .b false, .b false, .b false], false, 0⟩), (5, ⟨37, [.b u1, .b u2, .b u3, .b u4, .b u5], false, 0⟩)], []⟩) (fun s' => n - s'.nat 22) ⟨_, ?_, 0, true, true, true, true, true, by omega, rfl, rfl, rfl, rfl, rfl, rfl⟩ ?_
  ·exact Less.a0
  rintro s' ⟨q, u1, u2, u3, u4, u5, hq, h1, h2, h3, h4, h5, rfl⟩
  by_cases hlt : q < n
  ·obtain ⟨x, hx⟩ := get_lt hn hlt
   have hla4 := hal4 x (List.mem_of_getElem? hx)
   have e1 := all_snoc (fun s : St => s.arcs.all fA) hx
   have e2 := all_snoc (fun s : St => s.arcs.all fF) hx
   have e3 := all_snoc (fun s : St => disN s.arcs s.arcs.length) hx
   have e4 := all_snoc (fun s : St => srtN s.arcs s.arcs.length) hx
   have e5 := all_snoc (fun s : St => fP s.fin && s.arcs.all fW) hx
   rw [← h1] at e1
   rw [← h2] at e2
   rw [← h3] at e3
   rw [← h4] at e4
   rw [← h5] at e5
   clear h1 h2 h3 h4 h5
   obtain ⟨xf, xa⟩ := x
   simp only at hla4 e1 e2 e3 e4 e5
   obtain ⟨la, hla⟩ : ∃ n, xa.length = n := ⟨_, rfl⟩
   have hso := am_sorted xa hla4
   rw [hla] at hla4 e3 e4 hso
   obtain ⟨v5, hv5⟩ : ∃ v, v = (u5 && fP xf) := ⟨_, rfl⟩
   rw [← Bool.and_assoc, ← hv5] at e5
   obtain ⟨so, hsE⟩ : ∃ v, srtN xa la = v := ⟨_, rfl⟩
   rw [hsE] at e4 hso
   clear hsE
   obtain ⟨v4, hv4⟩ : ∃ v, v = (u4 && so) := ⟨_, rfl⟩
   rw [← hv4] at e4
   apply AW.sr
   refine AL.z ?_
   apply AL.nil
   try simp only [nd]
   apply AW.seq
   refine AW.condT rfl ?_
   apply AW.skip
   try simp only [thenS]
   apply AW.seq
   apply AW.block
   apply AW.sr
   iterate 2 refine AL.z ?_
   refine AL.sm rfl (sm_alloc (l := [.d (.p (.int .i64 0)), .d (.p (.slice none 0 0))]) 7 inf35 rfl rfl rfl rfl) ?_
   refine AL.y ?_
   apply AL.nil
   try simp only [nd, setL, V.cs, nz, Nat.reduceAdd, nm, ns]
   refine AW.seqc (fun s' => s' = ⟨111, [(1, .ref 1 0), (2, .ref 2 0), (5, .ref 5 0), (7, .ref 7 0), (20, .d (stsD sts)), (21, .i n), (22, .i q)], [(1, ⟨24, [.i st, .d (stsD sts)], false, 0⟩), (2, ⟨37, [.b false, .b false, .b false, .b false, .b false], false, 0⟩), (5, ⟨37, [.b u1, .b u2, .b u3, .b u4, .b v5], false, 0⟩), (7, ⟨35, [.i xf, .d (arsD xa)], false, 0⟩)], []⟩) ?_ ?_
   ·skip
    cases u5 with
    | false =>
     obtain rfl : v5 = false := by rw [hv5]; rfl
     apply AW.region
     iterate 3 refine AL.z ?_
     refine AL.noV rfl rfl rfl rfl ?_
     refine AL.noV rfl rfl rfl rfl ?_
     refine AL.noV rfl rfl rfl rfl ?_
     refine AL.noV rfl rfl rfl rfl ?_
     refine AL.noU rfl ⟨_, rfl, rfl⟩ rfl ?_
     refine AL.noU rfl ⟨_, rfl, rfl⟩ rfl ?_
     refine AL.noU rfl ⟨_, rfl, rfl⟩ rfl ?_
     refine AL.noV rfl rfl rfl rfl ?_
     iterate 2 refine AL.z ?_
     (refine AL.st rfl (st_store inf4 rfl rfl rfl rfl rfl rfl rfl zT7 rfl) ?_)
     apply AL.nil
     try simp only [nd, setL, V.cs, nz, Nat.reduceAdd, nm, ns]
     refine ⟨_, ?_, rfl⟩
     exact Less.a0
    | true =>
     by_cases f0 : xf = 0
     ·obtain rfl : v5 = true := by rw [hv5]; simp [fP, f0]
      apply AW.region
      iterate 3 refine AL.z ?_
      iterate 4 refine AL.zy ?_
      refine AL.noV rfl rfl rfl rfl ?_
      refine AL.noV rfl rfl rfl rfl ?_
      refine AL.noV rfl rfl rfl rfl ?_
      refine AL.zy ?_
      iterate 2 refine AL.z ?_
      (refine AL.st rfl (st_store inf4 rfl rfl rfl rfl rfl rfl rfl zT7 rfl) ?_)
      apply AL.nil
      try simp only [nd, setL, V.cs, nz, Nat.reduceAdd, nm, ns]
      refine ⟨_, ?_, rfl⟩
      exact Less.a0
     by_cases f1 : xf = 1000000001
     ·obtain rfl : v5 = true := by rw [hv5]; simp [fP, f1]
      apply AW.region
      iterate 3 refine AL.z ?_
      iterate 8 refine AL.zy ?_
      iterate 2 refine AL.z ?_
      (refine AL.st rfl (st_store inf4 rfl rfl rfl rfl rfl rfl rfl zT7 rfl) ?_)
      apply AL.nil
      try simp only [nd, setL, V.cs, nz, Nat.reduceAdd, nm, ns]
      refine ⟨_, ?_, rfl⟩
      exact Less.a0
     obtain rfl : v5 = false := by rw [hv5]; simp [fP, f0, f1]
     apply AW.region
     iterate 3 refine AL.z ?_
     iterate 8 refine AL.zy ?_
     iterate 2 refine AL.z ?_
     (refine AL.st rfl (st_store inf4 rfl rfl rfl rfl rfl rfl rfl zT7 rfl) ?_)
     apply AL.nil
     try simp only [nd, setL, V.cs, nz, Nat.reduceAdd, nm, ns]
     refine ⟨_, ?_, rfl⟩
     exact Less.a0
   rintro s' rfl
   clear hv5
   refine AW.seqc (fun s' => s' = ⟨111, [(1, .ref 1 0), (2, .ref 2 0), (5, .ref 5 0), (7, .ref 7 0), (20, .d (stsD sts)), (21, .i n), (22, .i q)], [(1, ⟨24, [.i st, .d (stsD sts)], false, 0⟩), (2, ⟨37, [.b false, .b false, .b false, .b false, .b false], false, 0⟩), (5, ⟨37, [.b u1, .b u2, .b u3, .b v4, .b v5], false, 0⟩), (7, ⟨35, [.i xf, .d (arsD xa)], false, 0⟩)], []⟩) ?_ ?_
   ·skip
    cases u4 with
    | false =>
     obtain rfl : v4 = false := by rw [hv4]; rfl
     apply AW.region
     iterate 3 refine AL.z ?_
     refine AL.noV rfl rfl rfl rfl ?_
     refine AL.noV rfl rfl rfl rfl ?_
     refine AL.no rfl rfl rfl rfl ?_
     iterate 2 refine AL.z ?_
     (refine AL.st rfl (st_store inf4 rfl rfl rfl rfl rfl rfl rfl zT7 rfl) ?_)
     apply AL.nil
     try simp only [nd, setL, V.cs, nz, Nat.reduceAdd, nm, ns]
     refine ⟨_, ?_, rfl⟩
     exact Less.a0
    | true =>
     obtain rfl : v4 = so := by rw [hv4]; rfl
     apply AW.region
     iterate 3 refine AL.z ?_
     iterate 2 refine AL.zy ?_
     (refine AL.cally (post := ?pc17) rfl rfl (sm_call (args := [_, _]) ?hc17 ⟨Tryz.func31, rfl, rfl, rfl, rfl⟩ rfl rfl rfl rfl) ?_; (case hc17 => (exact hso)); rintro _ rfl -; try dsimp only)
     iterate 2 refine AL.z ?_
     (refine AL.st rfl (st_store inf4 rfl rfl rfl rfl rfl rfl rfl zT7 rfl) ?_)
     apply AL.nil
     try simp only [nd, setL, V.cs, nz, Nat.reduceAdd, nm, ns]
     refine ⟨_, ?_, rfl⟩
     exact Less.a0
   rintro s' rfl
   clear hv4 hso
   apply AW.sr
   refine AL.sm rfl (sm_makeMap 47 rfl rfl rfl) ?_
   refine AL.z ?_
   apply AL.nil
   try simp only [nd, setL, V.cs, nz, Nat.reduceAdd, nm, ns]
   apply AW.sr
   iterate 4 refine AL.z ?_
   apply AL.nil
   try simp only [nd]
   apply AW.block
   refine AW.loop (fun s' => ∃ (i : Nat) (M : List (P2 × Int)) (b1 b2 b3 b5 : Bool), i ≤ la ∧ Seen M (xa.take i) ∧ b1 = (u1 && (xa.take i).all fA) ∧ b2 = (u2 && (xa.take i).all fF) ∧ b3 = (u3 && disN xa i) ∧ b5 = (v5 && (xa.take i).all fW) ∧ s' = ⟨111, [(1, .ref 1 0), (2, .ref 2 0), (5, .ref 5 0), (8, .mp 47 w0.heap.size (mrows encP M)), (20, .d (stsD sts)), (21, .i n), (22, .i q), (49, .d (arsD xa)), (50, .i la), (51, .i i)], [(1, ⟨24, [.i st, .d (stsD sts)], false, 0⟩), (2, ⟨37, [.b false, .b false, .b false, .b false, .b false], false, 0⟩), (5, ⟨37, [.b b1, .b b2, .b b3, .b v4, .b b5], false, 0⟩)], []⟩) (fun s' => la - s'.nat 51) ⟨_, ?_, 0, [], u1, u2, u3, v5, by omega, Seen.nil, by simp, by simp, by simp [disN], by simp, rfl⟩ ?_
   ·exact Less.a0
   rintro s' ⟨i, M, b1, b2, b3, b5, hi, hM, h1, h2, h3, h5, rfl⟩
   by_cases hil : i < la
   ·obtain ⟨y, hy⟩ := get_lt hla hil
    have a1 := all_snoc fA hy
    have a2 := all_snoc fF hy
    have a3 := dis_snoc hy
    have a5 := all_snoc fW hy
    have a1' : (u1 && (xa.take (i + 1)).all fA) = (b1 && fA y) := by rw [a1, h1, Bool.and_assoc]
    have a2' : (u2 && (xa.take (i + 1)).all fF) = (b2 && fF y) := by rw [a2, h2, Bool.and_assoc]
    have a5' : (v5 && (xa.take (i + 1)).all fW) = (b5 && fW y) := by rw [a5, h5, Bool.and_assoc]
    have a3' : (u3 && disN xa (i + 1)) = (b3 && decide (cntP (y.i, y.o) (xa.take i) = 0)) := by rw [a3, h3, Bool.and_assoc]
    have hM1 := hM.step hy
    have hcl := cntP_le (y.i, y.o) (xa.take i)
    rw [List.length_take] at hcl
    have hcnt := hM.cnt (y.i, y.o)
    obtain ⟨k, hk⟩ : ∃ k, cntP (y.i, y.o) (xa.take i) = k := ⟨_, rfl⟩
    have hget := cert_dec hM hk
    rw [hk] at a3' hM1 hcl hcnt
    obtain ⟨v, M1, j, hE, hEv, hjl⟩ := Ent.ex M (y.i, y.o)
    obtain rfl : v = (k : Int) := by rw [hEv, hcnt]
    have hMl := hM.len
    rw [List.length_take] at hMl
    clear a1 a2 a3 a5 h1 h2 h3 h5 hM hk hcnt hEv
    obtain ⟨c1, hc1⟩ : ∃ v, v = (b1 && fA y) := ⟨_, rfl⟩
    obtain ⟨c2, hc2⟩ : ∃ v, v = (b2 && fF y) := ⟨_, rfl⟩
    obtain ⟨c3, hc3⟩ : ∃ v, v = (b3 && decide (k = 0)) := ⟨_, rfl⟩
    obtain ⟨c5, hc5⟩ : ∃ v, v = (b5 && fW y) := ⟨_, rfl⟩
    rw [← hc1] at a1'
    rw [← hc2] at a2'
    rw [← hc3] at a3'
    rw [← hc5] at a5'
    obtain ⟨yi, yo, yw, yt⟩ := y
    simp only at hE hM1 hget hc1 hc2 hc5
    apply AW.sr
    refine AL.z ?_
    apply AL.nil
    try simp only [nd]
    apply AW.seq
    refine AW.condT rfl ?_
    apply AW.skip
    try simp only [thenS]
    apply AW.seq
    apply AW.block
    apply AW.sr
    iterate 2 refine AL.z ?_
    refine AL.sm rfl (sm_alloc (l := [.d (.p (.int .i64 0)), .d (.p (.int .i64 0)), .d (.p (.int .i64 0)), .d (.p (.int .i64 0))]) 10 inf47 rfl rfl rfl rfl) ?_
    refine AL.y ?_
    apply AL.nil
    try simp only [nd, setL, V.cs, nz, Nat.reduceAdd, nm, ns]
    apply AW.sr
    iterate 4 refine AL.z ?_
    refine AL.rp rfl rfl (rp_build_arr (vs := [(0, _), (1, _)]) (zs := [.d (.p (.int .i64 0)), .d (.p (.int .i64 0))]) Tryz.underlying62 inf3 inf62 rfl rfl rfl rfl) ?_
    refine AL.sm rfl (sm_alloc (l := [.d (.p (.int .i64 0)), .d (.p (.int .i64 0))]) 11 inf62 rfl rfl rfl rfl) ?_
    refine AL.y ?_
    apply AL.nil
    try simp only [nd, setL, V.cs, nz, Nat.reduceAdd, nm, ns]
    apply AW.seq
    refine AW.drawG (TM encP 47 M M1) [(0, 2), (1, 0), (2, 1), (3, 2), (4, 0), (5, 2), (6, 0)] (fun i => i == 0 || i == 1 || i == 4 || i == 5) 7 zT12 zT12 rfl zT12 ?_
    refine AT.rp rfl rfl rfl (fun _ _ h => h) (rp_move rfl rfl) ?_
    refine AT.rd0T rfl rfl rfl (rd_loads_ref Tryz.underlying62 rfl inf62 rfl rfl rfl rfl rfl rfl) ?_
    refine AT.incr zT13 (keyOk62) Tryz.underlying61 inf3 rfl rfl rfl rfl rfl rfl rfl rfl rfl rfl rfl rfl rfl rfl rfl (fun _ _ h => h) rfl rfl (fun g a w hs => keyE62 (hs.ev rfl)) rfl (rp_add rfl rfl rfl zT15) rfl rfl (fun g a w hs => keyE62 (hs.ev rfl)) rfl (by simp [S.put, S.newObj, setL, V.cs, V.mpsL, V.mps, D.mps, D.mpsL, D.mpsR, mpsR_ars, mpsR_sts, V.one]) rfl rfl (rp_extract rfl rfl rfl) rfl rfl rfl ?_
    simp only [upS, S.put, List.map_cons, List.map_nil, upM_p, upM_ref, upM_own, upM_mp, upM_junk, upM_tup, upM_sl, mpsR_ars, mpsR_sts, upM_agg2]
    obtain ⟨M2, hM2⟩ : ∃ M2, mput M (yi, yo) ((k : Int) + 1) = M2 := ⟨_, rfl⟩
    rw [hM2] at hM1 hget
    rw [hM2]
    clear hE hM2
    refine AW.seqc (fun s' => s' = ⟨111, [(1, .ref 1 0), (2, .ref 2 0), (5, .ref 5 0), (8, .mp 47 w0.heap.size (mrows encP M2)), (20, .d (stsD sts)), (21, .i n), (22, .i q), (49, .d (arsD xa)), (50, .i la), (51, .i i), (10, .ref 10 0), (11, .ref 11 0)], [(1, ⟨24, [.i st, .d (stsD sts)], false, 0⟩), (2, ⟨37, [.b false, .b false, .b false, .b false, .b false], false, 0⟩), (5, ⟨37, [.b c1, .b b2, .b b3, .b v4, .b b5], false, 0⟩), (10, ⟨47, [.i yi, .i yo, .i yw, .i yt], false, 0⟩), (11, ⟨62, [.i yi, .i yo], false, 0⟩)], []⟩) ?_ ?_
    ·skip
     cases b1 with
     | false =>
      obtain rfl : c1 = false := by rw [hc1]; rfl
      apply AW.region
      iterate 3 refine AL.z ?_
      refine AL.noV rfl rfl rfl rfl ?_
      refine AL.noV rfl rfl rfl rfl ?_
      refine AL.noV rfl rfl rfl rfl ?_
      refine AL.noV rfl rfl rfl rfl ?_
      refine AL.noV rfl rfl rfl rfl ?_
      iterate 2 refine AL.z ?_
      (refine AL.st rfl (st_store inf4 rfl rfl rfl rfl rfl rfl rfl zT7 rfl) ?_)
      apply AL.nil
      try simp only [nd, setL, V.cs, nz, Nat.reduceAdd, nm, ns]
      refine ⟨_, ?_, rfl⟩
      exact Less.a0
     | true =>
      by_cases g1 : yi = yo
      ·obtain rfl : c1 = true := by rw [hc1]; simp [fA, g1]
       apply AW.region
       iterate 3 refine AL.z ?_
       iterate 5 refine AL.zy ?_
       iterate 2 refine AL.z ?_
       (refine AL.st rfl (st_store inf4 rfl rfl rfl rfl rfl rfl rfl zT7 rfl) ?_)
       apply AL.nil
       try simp only [nd, setL, V.cs, nz, Nat.reduceAdd, nm, ns]
       refine ⟨_, ?_, rfl⟩
       exact Less.a0
      obtain rfl : c1 = false := by rw [hc1]; simp [fA, g1]
      apply AW.region
      iterate 3 refine AL.z ?_
      iterate 5 refine AL.zy ?_
      iterate 2 refine AL.z ?_
      (refine AL.st rfl (st_store inf4 rfl rfl rfl rfl rfl rfl rfl zT7 rfl) ?_)
      apply AL.nil
      try simp only [nd, setL, V.cs, nz, Nat.reduceAdd, nm, ns]
      refine ⟨_, ?_, rfl⟩
      exact Less.a0
    rintro s' rfl
    clear hc1
    refine AW.seqc (fun s' => s' = ⟨111, [(1, .ref 1 0), (2, .ref 2 0), (5, .ref 5 0), (8, .mp 47 w0.heap.size (mrows encP M2)), (20, .d (stsD sts)), (21, .i n), (22, .i q), (49, .d (arsD xa)), (50, .i la), (51, .i i), (10, .ref 10 0), (11, .ref 11 0)], [(1, ⟨24, [.i st, .d (stsD sts)], false, 0⟩), (2, ⟨37, [.b false, .b false, .b false, .b false, .b false], false, 0⟩), (5, ⟨37, [.b c1, .b c2, .b b3, .b v4, .b b5], false, 0⟩), (10, ⟨47, [.i yi, .i yo, .i yw, .i yt], false, 0⟩), (11, ⟨62, [.i yi, .i yo], false, 0⟩)], []⟩) ?_ ?_
    ·skip
     cases b2 with
     | false =>
      obtain rfl : c2 = false := by rw [hc2]; rfl
      apply AW.region
      iterate 3 refine AL.z ?_
      refine AL.noV rfl rfl rfl rfl ?_
      refine AL.noV rfl rfl rfl rfl ?_
      refine AL.noV rfl rfl rfl rfl ?_
      iterate 2 refine AL.z ?_
      (refine AL.st rfl (st_store inf4 rfl rfl rfl rfl rfl rfl rfl zT7 rfl) ?_)
      apply AL.nil
      try simp only [nd, setL, V.cs, nz, Nat.reduceAdd, nm, ns]
      refine ⟨_, ?_, rfl⟩
      exact Less.a0
     | true =>
      have hr : (!(decide (yi = 0) && decide (yo = 0))) = c2 := by rw [hc2]; rfl
      apply AW.region
      iterate 3 refine AL.z ?_
      refine AL.zy ?_
      refine AL.rpy rfl rfl rfl (rp_build_arr (vs := []) (zs := [.d (.p (.int .i64 0)), .d (.p (.int .i64 0))]) Tryz.underlying62 inf3 inf62 rfl rfl rfl rfl) ?_
      refine AL.rpy rfl rfl rfl (cmp_neq_62F rfl rfl rfl rfl (by first | assumption | rfl)) ?_
      iterate 2 refine AL.z ?_
      (refine AL.st rfl (st_store inf4 rfl rfl rfl rfl rfl rfl rfl zT7 rfl) ?_)
      apply AL.nil
      try simp only [nd, setL, V.cs, nz, Nat.reduceAdd, nm, ns]
      refine ⟨_, ?_, rfl⟩
      exact Less.a0
    rintro s' rfl
    clear hc2
    refine AW.seqc (fun s' => s' = ⟨111, [(1, .ref 1 0), (2, .ref 2 0), (5, .ref 5 0), (8, .mp 47 w0.heap.size (mrows encP M2)), (20, .d (stsD sts)), (21, .i n), (22, .i q), (49, .d (arsD xa)), (50, .i la), (51, .i i), (10, .ref 10 0), (11, .ref 11 0)], [(1, ⟨24, [.i st, .d (stsD sts)], false, 0⟩), (2, ⟨37, [.b false, .b false, .b false, .b false, .b false], false, 0⟩), (5, ⟨37, [.b c1, .b c2, .b b3, .b v4, .b c5], false, 0⟩), (10, ⟨47, [.i yi, .i yo, .i yw, .i yt], false, 0⟩), (11, ⟨62, [.i yi, .i yo], false, 0⟩)], []⟩) ?_ ?_
    ·skip
     cases b5 with
     | false =>
      obtain rfl : c5 = false := by rw [hc5]; rfl
      apply AW.region
      iterate 3 refine AL.z ?_
      refine AL.noV rfl rfl rfl rfl ?_
      refine AL.noV rfl rfl rfl rfl ?_
      refine AL.noV rfl rfl rfl rfl ?_
      iterate 2 refine AL.z ?_
      (refine AL.st rfl (st_store inf4 rfl rfl rfl rfl rfl rfl rfl zT7 rfl) ?_)
      apply AL.nil
      try simp only [nd, setL, V.cs, nz, Nat.reduceAdd, nm, ns]
      refine ⟨_, ?_, rfl⟩
      exact Less.a0
     | true =>
      by_cases g1 : yw = 0
      ·obtain rfl : c5 = true := by rw [hc5]; simp [fW, g1]
       apply AW.region
       iterate 3 refine AL.z ?_
       iterate 3 refine AL.zy ?_
       iterate 2 refine AL.z ?_
       (refine AL.st rfl (st_store inf4 rfl rfl rfl rfl rfl rfl rfl zT7 rfl) ?_)
       apply AL.nil
       try simp only [nd, setL, V.cs, nz, Nat.reduceAdd, nm, ns]
       refine ⟨_, ?_, rfl⟩
       exact Less.a0
      obtain rfl : c5 = false := by rw [hc5]; simp [fW, g1]
      apply AW.region
      iterate 3 refine AL.z ?_
      iterate 3 refine AL.zy ?_
      iterate 2 refine AL.z ?_
      (refine AL.st rfl (st_store inf4 rfl rfl rfl rfl rfl rfl rfl zT7 rfl) ?_)
      apply AL.nil
      try simp only [nd, setL, V.cs, nz, Nat.reduceAdd, nm, ns]
      refine ⟨_, ?_, rfl⟩
      exact Less.a0
    rintro s' rfl
    clear hc5
    cases b3 with
    | false =>
     obtain rfl : c3 = false := by rw [hc3]; rfl
     apply AW.region
     iterate 3 refine AL.z ?_
     refine AL.noV rfl rfl rfl rfl ?_
     refine AL.noV rfl rfl rfl rfl ?_
     refine AL.noV rfl rfl rfl rfl ?_
     refine AL.noV rfl rfl rfl rfl ?_
     iterate 2 refine AL.z ?_
     (refine AL.st rfl (st_store inf4 rfl rfl rfl rfl rfl rfl rfl zT7 rfl) ?_)
     apply AL.nil
     try simp only [nd, setL, V.cs, nz, Nat.reduceAdd, nm, ns]
     apply AW.region
     iterate 2 refine AL.z ?_
     apply AL.nil
     try simp only [nd]
     refine ⟨_, ?_, ⟨i + 1, M2, c1, c2, _, c5, by omega, hM1, a1'.symm, a2'.symm, a3'.symm, a5'.symm, rfl⟩, ?_⟩
     ·exact Less.a0
     simp [S.nat, fnd]; omega
    | true =>
     by_cases g1 : k = 0
     ·obtain rfl : c3 = true := by rw [hc3]; simp [g1]
      apply AW.region
      iterate 3 refine AL.z ?_
      iterate 2 refine AL.zy ?_
      refine AL.rdy rfl rfl rfl (rd_lookup0 (keyOk62) Tryz.underlying61 inf3 rfl (.inl rfl) (fun g a w hs => keyE62 (hs.ev rfl)) zT13) ?_
      refine AL.zy ?_
      iterate 2 refine AL.z ?_
      (refine AL.st rfl (st_store inf4 rfl rfl rfl rfl rfl rfl rfl zT7 rfl) ?_)
      apply AL.nil
      try simp only [nd, setL, V.cs, nz, Nat.reduceAdd, nm, ns]
      apply AW.region
      iterate 2 refine AL.z ?_
      apply AL.nil
      try simp only [nd]
      refine ⟨_, ?_, ⟨i + 1, M2, c1, c2, _, c5, by omega, hM1, a1'.symm, a2'.symm, a3'.symm, a5'.symm, rfl⟩, ?_⟩
      ·exact Less.a0
      simp [S.nat, fnd]; omega
     obtain rfl : c3 = false := by rw [hc3]; simp [g1]
     apply AW.region
     iterate 3 refine AL.z ?_
     iterate 2 refine AL.zy ?_
     refine AL.rdy rfl rfl rfl (rd_lookup0 (keyOk62) Tryz.underlying61 inf3 rfl (.inl rfl) (fun g a w hs => keyE62 (hs.ev rfl)) zT13) ?_
     refine AL.zy ?_
     iterate 2 refine AL.z ?_
     (refine AL.st rfl (st_store inf4 rfl rfl rfl rfl rfl rfl rfl zT7 rfl) ?_)
     apply AL.nil
     try simp only [nd, setL, V.cs, nz, Nat.reduceAdd, nm, ns]
     apply AW.region
     iterate 2 refine AL.z ?_
     apply AL.nil
     try simp only [nd]
     refine ⟨_, ?_, ⟨i + 1, M2, c1, c2, _, c5, by omega, hM1, a1'.symm, a2'.symm, a3'.symm, a5'.symm, rfl⟩, ?_⟩
     ·exact Less.a0
     simp [S.nat, fnd]; omega
   obtain rfl : i = la := by omega
   rw [List.take_of_length_le zT15] at h1 h2 h5
   rw [← h1] at e1
   rw [← h2] at e2
   rw [← h3] at e3
   rw [← h5] at e5
   apply AW.sr
   refine AL.z ?_
   apply AL.nil
   try simp only [nd]
   apply AW.seq
   refine AW.condF rfl ?_
   refine AW.exit ?_
   try simp only [thenS, inBlockS, ↓reduceIte, Nat.reduceEqDiff]
   apply AW.region
   iterate 2 refine AL.z ?_
   apply AL.nil
   try simp only [nd]
   refine ⟨_, ?_, ⟨q + 1, b1, b2, b3, v4, b5, by omega, e1.symm, e2.symm, e3.symm, e4.symm, e5.symm, rfl⟩, ?_⟩
   ·exact Less.a0
   simp [S.nat, fnd]; omega
  rw [List.take_of_length_le zT15] at h1 h2 h3 h4 h5
  have k1 : bA sts = u1 := h1.symm
  have k2 : bFl sts = u2 := h2.symm
  have k3 : bDi sts = u3 := h3.symm
  have k4 : bSo sts = u4 := h4.symm
  have k5 : bPl sts = u5 := h5.symm
  rw [k1, k2, k3, k4, k5]
  clear h1 h2 h3 h4 h5 k1 k2 k3 k4 k5
  cases u3 with
  | false =>
   simp only [Bool.false_and]
   apply AW.sr
   refine AL.z ?_
   apply AL.nil
   try simp only [nd]
   apply AW.seq
   refine AW.condF rfl ?_
   refine AW.exit ?_
   try simp only [thenS, inBlockS, ↓reduceIte, Nat.reduceEqDiff]
   apply AW.sr
   iterate 3 refine AL.z ?_
   refine AL.noV rfl rfl rfl rfl ?_
   refine AL.noV rfl rfl rfl rfl ?_
   iterate 2 refine AL.z ?_
   (refine AL.st rfl (st_store inf4 rfl rfl rfl rfl rfl rfl rfl zT7 rfl) ?_)
   apply AL.nil
   try simp only [nd, setL, V.cs, nz, Nat.reduceAdd, nm, ns]
   apply AW.sr
   refine AL.z ?_
   refine AL.y ?_
   refine AL.z ?_
   apply AL.nil
   try simp only [nd, setL, V.cs, nz, Nat.reduceAdd, nm, ns]
   apply AW.ret
   exact ⟨[_, _], ⟨⟨2, 0, _, _, rfl, rfl, rfl, Tryz.underlying37, .inr ⟨rfl, _, _, _, _, inf37, rfl, rfl, rfl⟩⟩, rfl, trivial⟩, rfl, by simp [tupOf, V.pure, V.has, V.hasL]⟩
  | true =>
   simp only [Bool.true_and]
   apply AW.sr
   refine AL.z ?_
   apply AL.nil
   try simp only [nd]
   apply AW.seq
   refine AW.condF rfl ?_
   refine AW.exit ?_
   try simp only [thenS, inBlockS, ↓reduceIte, Nat.reduceEqDiff]
   apply AW.sr
   iterate 3 refine AL.z ?_
   iterate 2 refine AL.zy ?_
   iterate 2 refine AL.z ?_
   (refine AL.st rfl (st_store inf4 rfl rfl rfl rfl rfl rfl rfl zT7 rfl) ?_)
   apply AL.nil
   try simp only [nd, setL, V.cs, nz, Nat.reduceAdd, nm, ns]
   apply AW.sr
   refine AL.z ?_
   refine AL.y ?_
   refine AL.z ?_
   apply AL.nil
   try simp only [nd, setL, V.cs, nz, Nat.reduceAdd, nm, ns]
   apply AW.ret
   exact ⟨[_, _], ⟨⟨2, 0, _, _, rfl, rfl, rfl, Tryz.underlying37, .inr ⟨rfl, _, _, _, _, inf37, rfl, rfl, rfl⟩⟩, rfl, trivial⟩, rfl, by simp [tupOf, V.pure, V.has, V.hasL]⟩
 rw [prV_no h0]
 obtain ⟨st, sts⟩ := m
 obtain ⟨e, he⟩ : ∃ e, machE ⟨st, sts⟩ = e := ⟨_, rfl⟩
 rw [he] at h0 ⊢
 refine Fn.intro (n := 111) ⟨Tryz.func14, rfl, rfl, rfl, rfl⟩ zT8 zT16 fun w0 out => ?_
 apply AW.sr
 refine AL.sm rfl (sm_box 1 rfl rfl rfl rfl rfl) ?_
 refine AL.sm rfl (sm_alloc (l := [.d (.p (.bool false)), .d (.p (.bool false)), .d (.p (.bool false)), .d (.p (.bool false)), .d (.p (.bool false))]) 2 inf37 rfl rfl rfl rfl) ?_
 refine AL.z ?_
 apply AL.nil
 try simp only [nd, setL, V.cs, nz, Nat.reduceAdd, nm, ns, enum]
 apply AW.seq
 apply AW.sr
 refine AL.z ?_
 refine AL.call (post := ?pc18) rfl (sm_call (args := [_]) ?hc18 ⟨Tryz.func27, rfl, rfl, rfl, rfl⟩ rfl rfl rfl rfl) ?_
 case hc18 => exact Fn.eqi (am_Check ⟨st, sts⟩) he
 rintro _ rfl -
 try dsimp only
 refine AL.z ?_
 apply AL.nil
 try simp only [nd, setL, V.cs, nz, Nat.reduceAdd, nm, ns]
 apply AW.sr
 iterate 2 refine AL.z ?_
 apply AL.nil
 try simp only [nd]
 refine AW.condT rfl ?_
 apply AW.sr
 refine AL.rp rfl rfl (rp_build (vs := []) (zs := [.d (.p (.bool false)), .d (.p (.bool false)), .d (.p (.bool false)), .d (.p (.bool false)), .d (.p (.bool false))]) pl37 inf37 rfl rfl rfl rfl) ?_
 refine AL.z ?_
 refine AL.y ?_
 refine AL.z ?_
 apply AL.nil
 try simp only [nd, setL, V.cs, nz, Nat.reduceAdd, nm, ns]
 apply AW.ret
 exact ⟨[_, _], ⟨⟨2, 0, _, _, rfl, rfl, rfl, Tryz.underlying37, .inr ⟨rfl, _, _, _, _, inf37, rfl, rfl, rfl⟩⟩, rfl, trivial⟩, rfl, by simp [tupOf, V.pure, V.has, V.hasL]⟩
end Go.Proofs.YthiknkcigcglkaaGreatDoor
