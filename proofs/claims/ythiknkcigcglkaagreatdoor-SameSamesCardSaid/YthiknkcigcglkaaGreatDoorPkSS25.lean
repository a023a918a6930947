/- Part 25 of what the law SameSames rests on. -/
import Derived.Test.YthiknkcigcglkaaGreatDoorPkSS18
import Derived.Test.YthiknkcigcglkaaGreatDoorPkSS24
namespace Go.Proofs.YthiknkcigcglkaaGreatDoor
open Go.RowKit
open Go.Proofs.Tryz
open Bool (and_eq_true)
open List (all_eq_true append_assoc append_nil cons_append drop_eq_getElem_cons flatMap_append flatMap_cons flatMap_nil getD_eq_getElem?_getD length_cons length_map length_take map_append map_cons map_nil mem_append mem_cons_of_mem mem_cons_self mem_of_getElem? mem_singleton set_cons_zero take_of_length_le)
open Nat (le_refl zero_add)
open Option (getD_some map_some)
set_option linter.unusedSimpArgs false
set_option linter.unusedVariables false
set_option maxRecDepth 100000
set_option maxHeartbeats 8000000
variable {P sts : List St} {cl d l out y : List Nat} {B j m n st w : Nat} {c v : Int} {A o : List Ar} {L : List (List Nat)} {lj : List (Int × Int)}
def eqC (n : Nat) (cl cl' : List Nat) : Prop := ∀ q p, q < n → p < n → (clG cl q = clG cl p ↔ clG cl' q = clG cl' p)
theorem qz9 {n : Nat} {cl cl' : List Nat} (h : eqC n cl cl') {t : Nat} (ht : t < n) : ∀ {l : List Nat}, (∀ q ∈ l, q < n) → uz cl l t = uz cl' l t
  | [], _ => rfl
  | q :: l, hl => by
    have ih := qz9 h ht (l := l) fun q hq => hl q (mem_cons_of_mem _ hq)
    unfold uz at ih ⊢; rw [List.findIdx_cons, List.findIdx_cons, ih]; have e : decide (clG cl q = clG cl t) = decide (clG cl' q = clG cl' t) := decide_eq_decide.2 (h q t (hl q mem_cons_self) ht); rw [e]
theorem qr3 {n : Nat} {cl cl' : List Nat} (h : eqC n cl cl') : ∀ (ars : List Ar) (l : List Nat) (o : List Ar), (∀ q ∈ l, q < n) → (∀ a ∈ ars, a.t.toNat < n) → wQ cl l ars o = wQ cl' l ars o ∧ ∀ q ∈ (wQ cl l ars o).1, q < n
  | [], l, o, hl, _ => ⟨rfl, hl⟩
  | a :: r, l, o, hl, ha => by
    have hat := ha a mem_cons_self; have e1 := qz9 h hat hl; have e2 : qa5 cl l a = qa5 cl' l a := by unfold qa5; rw [e1]
    have e3 : q36 cl l a = q36 cl' l a := by unfold q36; rw [e1]
    have e4 : ∀ q ∈ q36 cl l a, q < n := fun q hq => by grind [q36, mem_singleton]
    have ih := qr3 h r (q36 cl l a) (o ++ [qa5 cl l a]) e4 fun x hx => ha x (mem_cons_of_mem _ hx)
    rw [wQ, wQ, ← e2, ← e3]; exact ih
theorem jI9 {sts : List St} (ht : tin sts) (q : Nat) : ∀ a ∈ (sts[q]?.getD ⟨0, []⟩).arcs, a.t.toNat < sts.length := fun a ha => by
  cases h : sts[q]? with
  | none => rw [h] at ha; simp at ha
  | some x => rw [h] at ha; exact ht x (mem_of_getElem? h) a ha
theorem qA0 {sts : List St} (ht : tin sts) {cl cl' : List Nat} (h : eqC sts.length cl cl') : ∀ (k : Nat) (l : List Nat) (out : List St), (∀ q ∈ l, q < sts.length) → gG sts cl k l out = gG sts cl' k l out
  | 0, _, _, _ => rfl
  | k + 1, l, out, hl => by
    rw [gG, gG]
    cases hq : l[out.length]? with
    | none => rfl
    | some q =>
      obtain ⟨e1, e2⟩ := qr3 h (sts[q]?.getD ⟨0, []⟩).arcs l [] hl (jI9 ht q); simp only; rw [← e1]; exact qA0 ht h k _ _ e2
open Classical in
noncomputable def clS (sts : List St) : List Nat := (List.range sts.length).map fun q => (List.range sts.length).findIdx fun p => decide (sim sts q p)
theorem j75 {q : Nat} (hq : q < sts.length) : ∃ j, clG (clS sts) q = j ∧ ∀ p, p < sts.length → sim sts q p → j < sts.length ∧ sim sts q j := by
  classical
  refine ⟨_, rfl, fun p hp hs => ?_⟩; have e : clG (clS sts) q = (List.range sts.length).findIdx fun p => decide (sim sts q p) := by grind [clG, clS, List.getElem?_range]
  rw [e]
  have zk : ((List.range sts.length).findIdx fun p => decide (sim sts q p)) < (List.range sts.length).length := List.findIdx_lt_length_of_exists ⟨p, List.mem_range.2 hp, decide_eq_true hs⟩
  refine ⟨by simpa using zk, ?_⟩
  have := List.findIdx_getElem (xs := List.range sts.length) (p := fun p => decide (sim sts q p)) (w := zk)
  rw [List.getElem_range] at this; exact of_decide_eq_true this
theorem j76 (ht : tin sts) {q p : Nat} (hq : q < sts.length) (hp : p < sts.length) : clG (clS sts) q = clG (clS sts) p ↔ sim sts q p := by
  classical
  constructor
  · grind [j75, qQ5, qH3, qQ6]
  grind [clG, clS, List.getElem?_range, sim, qH3, qQ6]
noncomputable def qv0 (sts : List St) (st : Nat) : List St := gG sts (clS sts) sts.length [st] []
theorem jT5 (ht : tin sts) (xR : st < sts.length) (h : ∀ q p, q < sts.length → p < sts.length → (clG cl q = clG cl p ↔ sim sts q p)) : gG sts cl sts.length [st] [] = qv0 sts st :=
  qA0 ht (fun q p hq hp => (h q p hq hp).trans (j76 ht hq hp).symm) _ _ _ fun q hq => by rw [mem_singleton] at hq; rw [hq]; exact xR
noncomputable def leE (m : zr) : Int := if zn m ≠ 0 then zn m else if bFl m.states = false then 7 else if (bDi m.states && bFl m.states) = false then 8 else w9 m
noncomputable def leM (m : zr) : zr := if leE m = 0 then (if (vT m).start < 0 then y8 inO (vT m) else ⟨0, qv0 (y8 inO (vT m)).states (vT m).start.toNat⟩) else ⟨0, []⟩
noncomputable def leV (m : zr) : Int := if leE m = 0 then (if (vT m).start < 0 then 0 else ue m) else 0
theorem qF9 {m : zr} (h : leE m ≠ 0) : leM m = ⟨0, []⟩ ∧ leV m = 0 := ⟨by unfold leM; rw [if_neg h], by unfold leV; rw [if_neg h]⟩
theorem qA1 {D : List Nat} : ∀ (l : List St) (k : Nat), xp (gd D k l) = xp l
  | [], k => rfl
  | s :: l, k => by
    have ih := qA1 (D := D) l (k + 1); unfold xp at ih ⊢; rw [gd, map_cons, map_cons, List.sum_cons, List.sum_cons, ih]; simp [q49]
theorem j77 {x : Nat} (h : okD x = true) : vL x ≤ 1000000001 := by grind [okD, vL]
theorem qL0 {m : zr} (h : w9 m = 0) : zn (vT m) = 0 := by
  have h0 : zn m = 0 := by
    unfold w9 at h
    by_cases h1 : zn m = 0
    · exact h1
    rw [if_pos h1] at h; exact h
  obtain ⟨T, hT⟩ : ∃ T, x9 m = T := ⟨_, rfl⟩; unfold w9 at h; rw [if_neg (by simp [h0]), hT] at h
  by_cases h1 : wL (enD T) T = 0
  · rw [if_neg (by simp [h1])] at h
    have hTm := q24 h1
    have xE : (enD T).all okD = true := by
      unfold wL at h1; rw [if_neg (by simp [hTm])] at h1
      by_cases hh : (enD T).all okD = true
      · exact hh
      rw [if_neg hh] at h1; cases h1
    by_cases ho : qU3 (wM (enD T) T) T.states
    · obtain ⟨_, hM, _⟩ := qt6 h0 (hT ▸ h1) hT rfl ho
      rw [hM]; have hL : wM (enD T) T = (enD T).map vL := by unfold wM; rw [if_pos h1]
      obtain ⟨z1, z2, z3, z4⟩ := xj hTm
      have hD : ∀ q, q < T.states.length → (wM (enD T) T)[q]? = some (vL (dst (vz (enF T)) (vn (enE T)) q)) := fun q hq => by
        rw [hL]; unfold enD ws; rw [List.getElem?_map, List.getElem?_map, List.getElem?_range hq]; rfl
      have hDo : ∀ q, q < T.states.length → okD (dst (vz (enF T)) (vn (enE T)) q) = true := fun q hq => by
        refine List.all_eq_true.1 xE _ (mem_of_getElem? (i := q) ?_); unfold enD ws; rw [List.getElem?_map, List.getElem?_range hq]; rfl
      obtain ⟨D, hDe⟩ : ∃ D, wM (enD T) T = D := ⟨_, rfl⟩; rw [hDe] at hD ho ⊢; have gI := yz
      have jx3 : ∀ s ∈ T.states, ∀ a ∈ s.arcs, 0 ≤ a.t ∧ a.t < T.states.length ∧ 0 ≤ a.w := fun s hs a ha => by
        have := (z4 s hs).2 a ha; simp only [xl, decide_eq_true_eq] at this; omega
      have xR : ∀ q x, T.states[q]? = some x → uK T.states.length (q49 D q x) = true := fun q x hx => by
        have hq : q < T.states.length := (List.getElem?_eq_some_iff.1 hx).1; obtain ⟨f1, f2⟩ := z4 x (mem_of_getElem? hx); obtain ⟨b1, b2, b3⟩ := bP (Init := vz (enF T)) (Edge := vn (enE T)) q; have hdq := qd2 (hD q hq); have htq := j77 (hDo q hq); unfold uK; rw [and_eq_true]
        constructor
        · unfold vy at f1 ⊢
          have f1 := of_decide_eq_true f1; refine decide_eq_true ?_
          show 0 ≤ ud D q x ∧ ud D q x ≤ 1000000001
          unfold ud
          split
          · omega
          rename_i zT
          have ql5 : vz (enF T) q x.fin.toNat := by
            refine ⟨?_, by omega⟩; unfold enF; rw [w8 hq, getD_eq_getElem?_getD, hx]; rfl
          have hle := b3 _ (.init _ _ ql5); rw [hdq]
          have : vL (dst (vz (enF T)) (vn (enE T)) q) ≤ x.fin.toNat := by
            unfold vL; rw [if_neg zg]; exact hle
          omega
        show (x.arcs.map (bp D q)).all _ = true
        rw [List.all_map, all_eq_true]; intro a ha; have k1 := f2 a ha; have k2 := ho q x a hx ha; obtain ⟨c1, c2, c3⟩ := jx3 x (mem_of_getElem? hx) a ha; simp only [xl, decide_eq_true_eq] at k1; refine qf3 ?_; simp only [bp]; refine ⟨k1.1, k1.2.1, ⟨?_, k2⟩, k1.2.2.2⟩; have htl : a.t.toNat < T.states.length := by omega
        have hdt := qd2 (hD _ htl); have htt := j77 (hDo _ htl); obtain ⟨d1, d2, d3⟩ := bP (Init := vz (enF T)) (Edge := vn (enE T)) a.t.toNat; unfold bn; rw [hdq, hdt]; obtain ⟨j, hj⟩ := List.getElem?_of_mem ha; have q47 : vn (enE T) a.t.toNat q a.w.toNat := (j47 jx3).2 ⟨x, j, a, hx, hj, by omega, by omega⟩
        have : vL (dst (vz (enF T)) (vn (enE T)) q) ≤ a.w.toNat + vL (dst (vz (enF T)) (vn (enE T)) a.t.toNat) := by
          by_cases e : dst (vz (enF T)) (vn (enE T)) a.t.toNat = big
          · have : vL (dst (vz (enF T)) (vn (enE T)) a.t.toNat) = 1000000001 := by unfold vL; rw [if_pos e]
            omega
          have hp := d2 zg; have hle := b3 _ (.step _ _ _ _ hp q47); have e2 : vL (dst (vz (enF T)) (vn (enE T)) a.t.toNat) = dst (vz (enF T)) (vn (enE T)) a.t.toNat := by unfold vL; rw [if_neg e]
          have x6 := hDo _ htl; unfold okD at x6; have x6 := of_decide_eq_true x6; rw [e2]; have e3 : vL (dst (vz (enF T)) (vn (enE T)) q) = dst (vz (enF T)) (vn (enE T)) q := by unfold vL; rw [if_neg zg]
          omega
        omega
      unfold zn; simp only; rw [q89, qA1, if_neg zg, if_pos]; refine ⟨?_, ?_⟩
      · unfold q50
        simp only; rw [q89]; exact z3
      rw [all_eq_true]; intro s hs; obtain ⟨q, hq⟩ := List.getElem?_of_mem hs; rw [q23, zero_add] at hq
      cases hx : T.states[q]? with
      | none => rw [hx] at hq; cases hq
      | some x =>
        rw [hx] at hq; simp only [map_some, Option.some.injEq] at hq; rw [← hq]; exact xR q x hx
    rw [if_neg ho] at h; cases h
  rw [if_pos h1] at h; exact absurd h h1
theorem qX8 {m : zr} (h : zn m = 0) : (y8 inO m).start = m.start ∧ (y8 inO m).states.length = m.states.length ∧ ∀ s ∈ (y8 inO m).states, s.arcs.length ≤ 400 ∧ vy s.fin = true ∧ ∀ a ∈ s.arcs, xl m.states.length a = true := by
  obtain ⟨z1, z2, z3, z4⟩ := xj h
  have hR : y8 inO m = ⟨m.start, m.states.map fun s => ⟨s.fin, inO s.arcs⟩⟩ := by unfold y8; rw [if_pos h]
  rw [hR]; refine ⟨rfl, by simp, fun s hs => ?_⟩; obtain ⟨x, hx, rfl⟩ := List.mem_map.1 hs; obtain ⟨f1, f2⟩ := z4 x hx; have := qn8 hx
  refine ⟨by simp only [gg]; omega, f1, fun a ha => f2 a ((gM _).mem_iff.1 ha)⟩
theorem Nmb.map {κ κ' : Type} {known ks : List κ} {out : List Nat} (h : Nmb known ks out) (φ : κ → κ') (hφ : ∀ k ∈ ks, ∀ k' ∈ ks, φ k = φ k' → k = k') : Nmb (known.map φ) (ks.map φ) out := by
  refine ⟨by rw [length_map, h.len], ?_, fun q k j h1 h2 => ?_, fun k hk => ?_⟩
  · refine List.pairwise_map.2 (h.nd.imp_of_mem fun {a b} ha hb zT e => zT (hφ a (h.all a ha) b (h.all b hb) e))
  · rw [List.getElem?_map] at h1
    cases h3 : ks[q]? with
    | none => rw [h3] at h1; cases h1
    | some k0 =>
      rw [h3] at h1; simp only [map_some, Option.some.injEq] at h1; rw [List.getElem?_map, h.at_ q k0 j h3 h2, ← h1]; rfl
  obtain ⟨k0, h1, rfl⟩ := List.mem_map.1 hk; exact List.mem_map_of_mem (h.all k0 h1)
theorem Nmb.sg {κ : Type} {c : List Nat} {known ks : List κ} (h : Nmb known ks out) (hl : ks.length = sts.length) (hk : ∀ (q p : Nat) (x y : St) (k k' : κ), sts[q]? = some x → sts[p]? = some y → ks[q]? = some k → ks[p]? = some k' → (k = k' ↔ sgK c q x = sgK c p y)) :
    ∃ (kn ks' : List (Nat × Int × List (Int × Int × Int × Nat))), Nmb kn ks' out ∧ kn.length = known.length ∧ ks'.length = sts.length ∧ ∀ (q : Nat) (x : St), sts[q]? = some x → ks'[q]? = some (sgK c q x) := by
  classical
  obtain ⟨φ, hφ⟩ : ∃ φ : κ → Nat × Int × List (Int × Int × Int × Nat), ∀ (q : Nat) (x : St) (k : κ), sts[q]? = some x → ks[q]? = some k → φ k = sgK c q x := by
    refine ⟨fun k => if hh : ∃ r : Nat × St, sts[r.1]? = some r.2 ∧ ks[r.1]? = some k then sgK c (Classical.choose hh).1 (Classical.choose hh).2 else (0, 0, []), fun q x k h1 h2 => ?_⟩
    have hh : ∃ r : Nat × St, sts[r.1]? = some r.2 ∧ ks[r.1]? = some k := ⟨(q, x), h1, h2⟩; simp only; rw [dif_pos hh]; obtain ⟨g1, g2⟩ := Classical.choose_spec hh; exact (hk _ _ _ _ _ _ g1 h1 g2 h2).1 rfl
  refine ⟨known.map φ, ks.map φ, h.map φ fun k h1 k' h2 e => ?_, by simp, by simp [hl], fun q x hx => ?_⟩
  · obtain ⟨q, hq⟩ := List.getElem?_of_mem h1
    obtain ⟨p, hp⟩ := List.getElem?_of_mem h2; have hql : q < sts.length := by rw [← hl]; exact (List.getElem?_eq_some_iff.1 hq).1
    have wl : p < sts.length := by rw [← hl]; exact (List.getElem?_eq_some_iff.1 hp).1
    have hx := List.getElem?_eq_getElem hql; have hy := List.getElem?_eq_getElem wl; rw [hφ _ _ _ hx hq, hφ _ _ _ hy hp] at e; exact (hk _ _ _ _ _ _ hx hy hq hp).2 e
  grind
def kS (cl : List Nat) (q : Nat) (x : St) : ByteArray := vu (clG cl q) ++ ⟨#[124]⟩ ++ wdS (sgN cl x)
theorem jZ0 (cl : List Nat) (q : Nat) (x : St) : kS cl q x = ⟨(sgB cl q x).toArray⟩ := by
  unfold kS vu wdS sgB; have h1 : (⟨#[124]⟩ : ByteArray) = ⟨[(124 : UInt8)].toArray⟩ := rfl; rw [h1, ByteArray.mk_append_mk, ByteArray.mk_append_mk]
  congr 1
  simp
theorem jT6 {q p : Nat} {x y : St} (hx : qC6 x) (hy : qC6 y) : kS cl q x = kS cl p y ↔ sgK cl q x = sgK cl p y := by grind [jZ0, jE3]
def qv1 (cl : List Nat) (sts : List St) : List ByteArray := (List.range sts.length).map fun q => kS cl q (sts[q]?.getD ⟨0, []⟩)
theorem qv2 (cl : List Nat) (sts : List St) : (qv1 cl sts).length = sts.length := by simp [qv1]
theorem qv3 {q : Nat} {x : St} (h : sts[q]? = some x) : (qv1 cl sts)[q]? = some (kS cl q x) := by grind [qv1, List.getElem?_range, List.getElem?_eq_some_iff]
def kmp : Nat → List ByteArray → List (ByteArray × Int)
  | _, [] => []
  | i, k :: l => (k, (i : Int)) :: kmp (i + 1) l
theorem qG0 : ∀ (l : List ByteArray) (i : Nat), (kmp i l).length = l.length
  | [], _ => rfl
  | k :: l, i => by rw [kmp, length_cons, length_cons, qG0 l]
theorem qX9 : ∀ (l : List ByteArray) (i : Nat) (k : ByteArray), kmp i (l ++ [k]) = kmp i l ++ [(k, ((i + l.length : Nat) : Int))]
  | [], i, k => rfl
  | x :: l, i, k => by
    rw [cons_append, kmp, kmp, qX9 l (i + 1) k, length_cons]
    rw [show i + 1 + l.length = i + (l.length + 1) by omega]
    rfl
theorem j78 : ∀ (l : List ByteArray) (i : Nat) (k : ByteArray) (v : Int), zK (kmp i l) k = some v → ∃ j, v = ((i + j : Nat) : Int) ∧ l[j]? = some k
  | [], i, k, v, h => by simp [kmp, zK, xQ] at h
  | x :: l, i, k, v, h => by
    rw [kmp, yF] at h
    split at h
    · grind
    obtain ⟨j, h1, h2⟩ := j78 l (i + 1) k v h; exact ⟨j + 1, by rw [h1]; congr 1; omega, by simpa using h2⟩
theorem jx4 {l : List ByteArray} {k : ByteArray} (h : zK (kmp 0 l) k = none) : k ∉ l := by
  rw [qm4] at h; intro hm
  have key : ∀ (l : List ByteArray) (i : Nat), k ∈ l → ∃ x ∈ kmp i l, x.1 = k := by
    intro l
    induction l with
    | nil => intro i hm; cases hm
    | cons y l ih =>
      intro i hm
      rcases List.mem_cons.1 hm with rfl | hm
      · exact ⟨_, mem_cons_self, rfl⟩
      obtain ⟨x, h1, h2⟩ := ih (i + 1) hm; exact ⟨x, mem_cons_of_mem _ h1, h2⟩
  obtain ⟨x, h1, h2⟩ := key l 0 hm; exact h x h1 h2
structure ClsI (sts : List St) (cl : List Nat) (m : Nat) : Prop where
  i : clI sts cl
  cov : ∀ j, j < m → j ∈ cl
  lt : ∀ c ∈ cl, c < m
  le : m ≤ sts.length
theorem ClsI.begin (h : 0 < sts.length) : ClsI sts (List.replicate sts.length 0) 1 := by
  refine ⟨⟨by simp, fun q p hs => ?_⟩, fun j hj => ?_, fun c hc => ?_, by omega⟩
  · grind
  · grind
  rw [List.eq_of_mem_replicate hc]; omega
theorem ClsI.next {sts : List St} (h : ClsI sts cl m) (ht : tin sts) (hp : ∀ x ∈ sts, qC6 x) {known : List ByteArray} (hn : Nmb known (qv1 cl sts) out) :
    ClsI sts out known.length ∧ m ≤ known.length ∧ (known.length = m → ∀ q p, q < sts.length → p < sts.length → (clG out q = clG out p ↔ sim sts q p)) := by
  obtain ⟨kn, ks', n1, n2, n3, n4⟩ := hn.sg (c := cl) (qv2 cl sts) fun q p x y k k' h1 h2 h3 h4 => by
    rw [qv3 h1] at h3; rw [qv3 h2] at h4
    cases h3
    cases h4
    exact jT6 (hp x (mem_of_getElem? h1)) (hp y (mem_of_getElem? h2))
  have hc : ∀ (q : Nat) (k : Nat × Int × List (Int × Int × Int × Nat)), ks'[q]? = some k → cl[q]? = some k.1 := fun q k hk => by
    have zk : q < sts.length := by rw [← n3]; exact (List.getElem?_eq_some_iff.1 hk).1
    have := n4 q _ (List.getElem?_eq_getElem zk); rw [hk] at this; rw [Option.some.inj this]; have hlc : q < cl.length := by rw [h.i.1]; exact zk
    rw [List.getElem?_eq_getElem hlc]; simp [sgK, List.getElem?_eq_getElem hlc]
  refine ⟨⟨qQ8 h.i n1 n4 n3, fun j hj => hn.cover j hj, fun c hc => ?_, by have := hn.le; rw [qv2] at this; exact this⟩, ?_, fun e q p hq hp => ?_⟩
  · obtain ⟨i, hi⟩ := List.getElem?_of_mem hc
    exact hn.lt hi
  · have := n1.ge (fun k => k.1) hc h.cov (h.i.1.trans n3.symm)
    omega
  exact jr4 ht h.i n1 n4 n3 (fun j hj => h.cov j zg) hq hp
theorem qY0 (r : Nat) (l : List (Value × Value)) (x : Int) : upM r l (.agg [.i x]) = .agg [.i x] := rfl
theorem qY1 (r : Nat) (l : List (Value × Value)) (x : Int) (b : Bool) : upM r l (.tup [.agg [.i x], .b b]) = .tup [.agg [.i x], .b b] := rfl
theorem jm1 : ∀ l : List Nat, D.mpsR (l.map vp) = false := gJ _ fun _ => rfl
theorem j79 (l : List Nat) : V.mpsL (l.map V.n) = false := by
  rw [V.mpsL_false]; intro v hv; obtain ⟨_, _, rfl⟩ := List.mem_map.1 hv; rfl
theorem j80 (l : List Nat) (k : Nat) : V.mpsL (l.map V.n ++ List.replicate k (V.n 0)) = false := by
  rw [V.mpsL_false]; intro v hv
  rcases List.mem_append.1 hv with hv | hv
  · obtain ⟨_, _, rfl⟩ := List.mem_map.1 hv
    rfl
  rw [List.eq_of_mem_replicate hv]; rfl
theorem qL1 {k q : Nat} {x : St} (h : l[P.length]? = some q) (hx : sts[q]? = some x) : gG sts cl (k + 1) l P = gG sts cl k (wQ cl l x.arcs []).1 (P ++ [⟨x.fin, (wQ cl l x.arcs []).2⟩]) := by
  rw [gG, h]; simp only [hx, getD_some]
theorem qY2 {k : Nat} (h : l.length ≤ P.length) : gG sts cl k l P = P := by
  cases k with
  | zero => rfl
  | succ k => rw [gG, List.getElem?_eq_none h]
theorem qY3 {i : Nat} {a : Ar} (h : A[i]? = some a) : wQ cl l (A.drop i) o = wQ cl (q36 cl l a) (A.drop (i + 1)) (o ++ [qa5 cl l a]) := by grind [List.getElem?_eq_some_iff, List.drop_eq_getElem_cons, wQ]
theorem jm2 (cl : List Nat) (m : Nat) : ql0 cl [] (List.replicate m (-1)) := by
  refine ⟨fun c v hv => ?_, fun c v hv h0 => ?_⟩
  · grind
  grind
theorem jx5 (cl : List Nat) (m s : Nat) : ql0 cl [s] ((List.replicate m (-1)).set (clG cl s) 0) := by
  have := qR0 (t := s) (jm2 cl m) rfl
  simpa using this
theorem qY4 (cl : List Nat) (s : Nat) : bN cl [s] := fun i j q p hij hi hj => by grind
theorem qY5 {a : Ar} {p : Nat} (hp : a.t.toNat = p) (h : uz cl l p = l.length) : q36 cl l a = l ++ [p] ∧ qa5 cl l a = ⟨a.i, a.o, a.w, l.length⟩ := by grind [q36, qa5]
theorem qY6 {a : Ar} {p : Nat} (hp : a.t.toNat = p) (h : uz cl l p = j) (hj : j < l.length) : q36 cl l a = l ∧ qa5 cl l a = ⟨a.i, a.o, a.w, j⟩ := by grind [q36, qa5]
theorem qq1 {q : Nat} (hc : cl.length = n) (hq : q < n) : cl[q]? = some (clG cl q) := by unfold clG; rw [List.getElem?_eq_getElem zg]; rfl
theorem qq2 {cl l : List Nat} (hd : bN cl l) (hl : ∀ q ∈ l, q < n) (hc : cl.length = n) (hm : ∀ c ∈ cl, c < m) : l.length ≤ m := jE1 hd fun q hq => hm _ (mem_of_getElem? (qq1 hc (hl q hq)))
theorem qY7 (m : zr) : Fn prog 21 [mV m, .i 0] (fun v => qQ1 (zn m) (y8 inO m) v) := by
 by_cases h0 : zn m = 0
 ·have hz := xj h0
  have hR : y8 inO m = ⟨m.start, m.states.map fun s => ⟨s.fin, inO s.arcs⟩⟩ := by unfold y8; rw [if_pos h0]
  rw [hR, h0]; refine qD m 0 rfl fun hb wm => ?_; obtain ⟨st, sts⟩ := m; simp only at hb wm hz; obtain ⟨n, hn⟩ : ∃ n, sts.length = n := ⟨_, rfl⟩; rw [hn] at hb; refine qc 62 fun w0 out => ?_; refine jc2 ?_; refine zW ?_; refine qa (Fn.eqi (wz ⟨st, sts⟩) h0) ?_; refine qe9 ?_; refine jM5 ?_; refine q34 ?_; refine qq 7 1 901 2 35 rfl rfl rfl zT4 ?_; refine zW ?_
  refine qb (fun s' => ∃ (k : Nat) (P : List St), k ≤ n ∧ P = (sts.take k).map (fun s => ⟨s.fin, inO s.arcs⟩) ∧ P.length = k ∧ s' = ⟨62, [(1, .i 0), (2, .ref 2 0), (4, .ref 4 0), (7, .ref 7 0), (8, .i k)], [(2, ⟨24, [.i st, .d (zq sts)], false, 0⟩), (4, ⟨24, [.i 0, .nil], false, 0⟩), (7, ⟨24, [.i st, .own 901 2 k (decide (k = 0))], false, 0⟩), (901, ⟨35, P.flatMap xT, decide (k = 0), 2⟩)], []⟩) (fun s' => n - s'.nat 8) ⟨_, ?_, 0, [], by omega, rfl, rfl, rfl⟩ ?_
  ·exact q8
  rintro s' ⟨k, P, hk, hP, wy, rfl⟩
  have xA : (P.flatMap xT).length = k * 2 := by rw [vh (sz := 2) (fun _ => rfl), wy]
  by_cases zk : k < n
  ·obtain ⟨x, hx⟩ := zl hn zk
   have hxm := mem_of_getElem? hx; have hxl := qn8 hxm; have hx4 : x.arcs.length ≤ 400 := by omega
   have vl := x5 hx; refine gi ?_; refine qa (qi4 x.arcs hx4) ?_; refine qC0 ?_; refine qi [(0, true), (1, true), (2, true), (3, true), (4, true), (5, true), (6, true), (7, true), (8, true), (9, true), (10, false), (11, false), (12, false), (13, false)] (fun i => !([11, 12, 13] : List Nat).contains i) 14 zh zh rfl zh ?_; refine xX ?_
   refine qw rfl rfl rfl (fun _ _ h => h) (xI (vs := [(0, _), (1, _)]) (zs := [.i 0, .nil]) qa2 xD rfl rfl rfl rfl) ?_; refine qm ?_; refine qI rfl rfl (zN (vs := [(0, _)]) (zs := [.i 0, .nil]) 58 underlying22 xD rfl rfl zj zj zj rfl rfl rfl rfl zT0 rfl rfl) ?_; refine qO ?_
   refine qo rfl rfl rfl (xK underlying22 xD rfl zj rfl rfl rfl rfl rfl rfl zT5 zT0 rfl rfl rfl rfl rfl rfl rfl zj zg zg rfl) ?_; refine g0 ?_; refine qH rfl rfl rfl rfl (xe underlying24 rfl rfl rfl qo6 zj rfl) ?_; refine jp2 ?_; refine qf1 ?_; refine ⟨_, ?_, ⟨k + 1, P ++ [⟨x.fin, inO x.arcs⟩], by omega, by rw [vl, map_append, hP]; rfl, by simp [wy], rfl⟩, ?_⟩
   ·simp only [map_append, map_cons, map_nil, flatMap_append, flatMap_cons, flatMap_nil, append_nil]
    exact q8
   exact zM
  obtain rfl : k = n := by omega
  rw [take_of_length_le zg] at hP; refine W53 ?_; refine qs 7 1 32 (P.map stD) rfl rfl rfl zj rfl rfl (by rw [length_map, wy]) zg (vx (enc := stD) (sz := 2) (l := P) (fun _ => rfl) rfl) ?_; refine zY ?_; exact ⟨[_, _], zU7, .inr ⟨rfl, by rw [hP]; rfl⟩, zU0⟩
 obtain ⟨e, he⟩ : ∃ e, zn m = e := ⟨_, rfl⟩; rw [he]; rw [he] at h0; obtain ⟨⟨st, sts⟩, rfl⟩ : ∃ m', m' = m := ⟨m, rfl⟩; refine qc 62 fun w0 out => ?_; refine jc2 ?_; refine zW ?_; refine qa (Fn.eqi (wz ⟨st, sts⟩) he) ?_; refine qf0 ?_; refine W14 ?_; exact ⟨[_, _], zU7, .inl ⟨h0, rfl⟩, zU0⟩
theorem jJ0 (m : zr) : Fn prog 21 [mV m, .i 0] (fun v => v = .tup [mV (y8 inO m), .i (zn m)]) := (qY7 m).wkS (qo9 fun h => by unfold y8; rw [if_neg h])
def sbV (w x : Nat) : Nat := if x = big then big else x - w
def nxL (sts : List St) (d : List Nat) (p : Ar) : List Nat := bhD sts d p.i p.o
def sbL (l : List Nat) (w : Nat) : List Nat := l.map (sbV w)
def lIx (L : List (List Nat)) (x : List Nat) : Nat := L.findIdx fun y => decide (y = x)
def lAd (L : List (List Nat)) (x : List Nat) : List (List Nat) := if lIx L x = L.length then L ++ [x] else L
theorem jx6 {x : List Nat} (h : ∀ (i : Nat) (y : List Nat), L[i]? = some y → y ≠ x) : lIx L x = L.length := by grind [lIx, List.findIdx_eq_length, List.getElem?_of_mem]
theorem jx7 {x : List Nat} {i : Nat} (hn : L.Nodup) (h : L[i]? = some x) : lIx L x = i := by grind [List.getElem?_eq_some_iff, lIx, List.findIdx_eq, Nat.lt_trans, List.pairwise_iff_getElem]
theorem qL2 {x : List Nat} (hn : L.Nodup) : (lAd L x).Nodup := by grind [lAd, lIx, List.findIdx_eq_length, List.nodup_append, List.mem_singleton]
def yC (sts : List St) (d : List Nat) : List Ar → List (List Nat) → Nat → List Ar → Int × List (List Nat) × Nat × List Ar
  | [], L, a, o => (0, L, a, o)
  | p :: r, L, a, o =>
    if 1000000000 < mnL (nxL sts d p) then (4, L, a, o)
    else if 400 < a + 1 ∨ 60 < (lAd L (sbL (nxL sts d p) (mnL (nxL sts d p)))).length then (5, L, a, o)
    else yC sts d r (lAd L (sbL (nxL sts d p) (mnL (nxL sts d p)))) (a + 1) (o ++ [⟨p.i, p.o, mnL (nxL sts d p), lIx L (sbL (nxL sts d p) (mnL (nxL sts d p)))⟩])
theorem j81 {a i : Nat} {p : Ar} (h : A[i]? = some p) : yC sts d (A.drop i) L a o = if 1000000000 < mnL (nxL sts d p) then (4, L, a, o)
    else if 400 < a + 1 ∨ 60 < (lAd L (sbL (nxL sts d p) (mnL (nxL sts d p)))).length then (5, L, a, o)
    else yC sts d (A.drop (i + 1)) (lAd L (sbL (nxL sts d p) (mnL (nxL sts d p)))) (a + 1) (o ++ [⟨p.i, p.o, mnL (nxL sts d p), lIx L (sbL (nxL sts d p) (mnL (nxL sts d p)))⟩]) := by
  have hi := List.getElem?_eq_some_iff.1 h; rw [drop_eq_getElem_cons hi.1, hi.2, yC]
def wX (sts : List St) (d : List Nat) : Nat → Nat
  | 0 => big
  | k + 1 => if d.getD k big ≠ big ∧ (sts[k]?.getD ⟨0, []⟩).fin ≠ 1000000001 ∧ d.getD k big + (sts[k]?.getD ⟨0, []⟩).fin.toNat < wX sts d k then d.getD k big + (sts[k]?.getD ⟨0, []⟩).fin.toNat else wX sts d k
theorem qG1 (sts : List St) (d : List Nat) : ∀ k, wX sts d k ≤ big
  | 0 => le_refl _
  | k + 1 => by
    have := qG1 sts d k; rw [wX]
    split
    · rename_i h
      omega
    exact this
theorem j82 {k c : Nat} {x : St} (hc : d[k]? = some c) (hx : sts[k]? = some x) : wX sts d (k + 1) = if c ≠ big ∧ x.fin ≠ 1000000001 ∧ c + x.fin.toNat < wX sts d k then c + x.fin.toNat else wX sts d k := by
  rw [wX, getD_eq_getElem?_getD, hc, hx]; rfl
def gv (f : Nat) : Int := if f = big then 1000000001 else f
def q77 (sts : List St) : Nat → List (List Nat) → Nat → List St → Int × List St
  | 0, _, _, P => (0, P)
  | k + 1, L, a, P => match L[P.length]? with
    | none => (0, P)
    | some d =>
      if wX sts d d.length ≠ big ∧ 1000000000 < wX sts d d.length then (4, P)
      else if (yC sts d (prS sts d) L a []).1 ≠ 0 then ((yC sts d (prS sts d) L a []).1, P)
      else q77 sts k (yC sts d (prS sts d) L a []).2.1 (yC sts d (prS sts d) L a []).2.2.1 (P ++ [⟨gv (wX sts d d.length), (yC sts d (prS sts d) L a []).2.2.2⟩])
theorem j83 {k a : Nat} (h : L[P.length]? = some d) : q77 sts (k + 1) L a P = if wX sts d d.length ≠ big ∧ 1000000000 < wX sts d d.length then (4, P)
      else if (yC sts d (prS sts d) L a []).1 ≠ 0 then ((yC sts d (prS sts d) L a []).1, P)
      else q77 sts k (yC sts d (prS sts d) L a []).2.1 (yC sts d (prS sts d) L a []).2.2.1 (P ++ [⟨gv (wX sts d d.length), (yC sts d (prS sts d) L a []).2.2.2⟩]) := by
  rw [q77, h]
theorem qY8 {k a : Nat} (h : L.length ≤ P.length) : q77 sts k L a P = (0, P) := by
  cases k with
  | zero => rfl
  | succ k => rw [q77, List.getElem?_eq_none h]
def yD (n s : Nat) : List Nat := (List.replicate n big).set s 0
def qi5 (m : zr) : Int × List St := q77 m.states 61 [yD m.states.length m.start.toNat] 0 []
def ceE (m : zr) : Int := if zn m ≠ 0 then zn m else if bFl m.states = false then 7 else if m.start < 0 then 0 else (qi5 m).1
def ceM (m : zr) : zr := if ceE m ≠ 0 then ⟨0, []⟩ else if m.start < 0 then ⟨-1, []⟩ else ⟨0, (qi5 m).2⟩
def ceB (n B : Nat) (d : List Nat) : Prop := d.length = n ∧ ∀ x ∈ d, x = big ∨ x ≤ B
theorem qL3 {i o : Int} {c q v B : Nat} (hc : c + 1000000000 ≤ B) (hv : v = big ∨ v ≤ B) : ∀ l : List Ar, (∀ a ∈ l, a.w ≤ 1000000000) → bhA i o c q v l = big ∨ bhA i o c q v l ≤ B
  | [], _ => hv
  | a :: l, h => by
    unfold bhA; rw [List.foldl_cons]; have h1 := h a mem_cons_self
    exact qL3 (i := i) (o := o) (c := c) (q := q) hc (v := if a.i = i ∧ a.o = o ∧ a.t = (q : Int) ∧ c + a.w.toNat < v then c + a.w.toNat else v) (by split <;> omega) l fun x hx => h x (mem_cons_of_mem _ hx)
theorem qo0 {sts : List St} {i o : Int} (hd : ceB n B d) (hw : ∀ x ∈ sts, ∀ a ∈ x.arcs, a.w ≤ 1000000000) : ceB n (B + 1000000000) (bhD sts d i o) := by
  refine ⟨by simp [bhD, bl, hd.1], fun x hx => ?_⟩; obtain ⟨q, hq⟩ := List.getElem?_of_mem hx; obtain ⟨hql, rfl⟩ := yx hq
  have key : ∀ k, k ≤ d.length → bhS sts d i o q k = big ∨ bhS sts d i o q k ≤ B + 1000000000 := by
    intro k
    induction k with
    | zero => intro _; exact .inl rfl
    | succ k ih =>
      intro hk; have ih := ih zg; rw [bhS]
      split
      · exact ih
      rename_i zT
      have hkl : k < d.length := by omega
      have hc := hd.2 _ (List.getElem_mem hkl); rw [getD_eq_getElem?_getD, List.getElem?_eq_getElem hkl, getD_some] at zT ⊢; refine qL3 zg ih _ fun a ha => ?_
      by_cases hks : k < sts.length
      · rw [wo (List.getElem?_eq_getElem hks)] at ha
        exact hw _ (List.getElem_mem hks) a ha
      grind [stA, List.getElem?_eq_none]
  exact key _ (le_refl _)
theorem qL4 (h : ceB n B l) : ceB n B (sbL l w) := by
  refine ⟨by simp [sbL, h.1], fun x hx => ?_⟩; obtain ⟨y, hy, rfl⟩ := List.mem_map.1 hx; unfold sbV
  rcases h.2 y hy with rfl | h1
  · exact .inl (if_pos rfl)
  split
  · exact .inl rfl
  exact .inr zg
theorem jJ1 {q x : Nat} (h : l[q]? = some x) : ((l.take q).map (sbV w) ++ l.drop q).set q (sbV w x) = (l.take (q + 1)).map (sbV w) ++ l.drop (q + 1) := by
  have hi := List.getElem?_eq_some_iff.1 h; have hq := hi.1; have hl : ((l.take q).map (sbV w)).length = q := by rw [length_map, length_take]; omega
  rw [List.set_append_right _ _ zg, hl, Nat.sub_self, drop_eq_getElem_cons hi.1, set_cons_zero, x5 h, map_append, append_assoc]; rfl
theorem jJ2 {q x : Nat} (h : l[q]? = some x) (hx : sbV w x = x) : (l.take (q + 1)).map (sbV w) ++ l.drop (q + 1) = (l.take q).map (sbV w) ++ l.drop q := by grind [List.getElem?_eq_some_iff, x5, List.append_assoc, List.drop_eq_getElem_cons]
theorem jZ1 {q x : Nat} (h : l[q]? = some x) : ((l.take q).map (sbV w) ++ l.drop q)[q]? = some x := by grind
def fndL (L : List (List Nat)) (x : List Nat) (j : Nat) (v : Int) : Prop := (v = -1 ∧ ∀ (i : Nat) (y : List Nat), i < j → L[i]? = some y → y ≠ x) ∨ ∃ i : Nat, i < j ∧ L[i]? = some x ∧ v = (i : Int)
theorem fndL.zero (L : List (List Nat)) (x : List Nat) : fndL L x 0 (-1) := .inl ⟨rfl, fun i q h => absurd h zg⟩
theorem fndL.yes {x : List Nat} (h : fndL L x j v) (hq : L[j]? = some x) : fndL L x (j + 1) (j : Int) := .inr ⟨j, by omega, hq, rfl⟩
theorem fndL.no {x : List Nat} (h : fndL L x j v) (hq : L[j]? = some y) (hc : y ≠ x) : fndL L x (j + 1) v := by
  rcases h with ⟨h1, h2⟩ | ⟨i, h1, h2⟩
  · refine .inl ⟨h1, fun i q' hi hq' => ?_⟩
    by_cases e : i = j
    · grind
    exact h2 i q' zg hq'
  exact .inr ⟨i, by omega, h2⟩
theorem fndL.end {x : List Nat} (h : fndL L x L.length v) (hn : L.Nodup) : (v < 0 ∧ lIx L x = L.length ∧ lAd L x = L ++ [x]) ∨ ∃ i : Nat, v = (i : Int) ∧ i < L.length ∧ lIx L x = i ∧ lAd L x = L := by
  rcases h with ⟨h1, h2⟩ | ⟨i, h1, h2, h3⟩
  · grind [lIx, jx6, List.getElem?_eq_some_iff, lAd]
  grind [jx7, lAd]
abbrev RcL := List ((Int × Int) × List (Int × Int))
def rc1 (L : RcL) (k : Int × Int) : RcL := match xV L k 0 with
  | none => L ++ [(k, [])]
  | some _ => L
def rc2 (L : RcL) (k : Int × Int) (t v : Int) : RcL := match xV L k 0 with
  | none => L
  | some (j, lj) => match zK lj t with
    | none => L.set j (k, vB lj t v)
    | some w => if v < w then L.set j (k, vB lj t v) else L
def rcA (L : RcL) (c : Int) (a : Ar) : RcL := rc2 (rc1 L (a.i, a.o)) (a.i, a.o) a.t (c + a.w)
def rcS (sts : List St) (L : RcL) (p : Nat × Nat) : RcL := (stA sts p.1).foldl (fun L a => rcA L p.2 a) L
def rcP (sts : List St) (l : List (Nat × Nat)) : RcL := l.foldl (rcS sts) []
theorem qL5 {L : RcL} {k : Int × Int} (h : xV L k 0 = none) : xV (L ++ [(k, [])]) k 0 = some (L.length, []) := by
  have : ∀ (L : RcL) (i : Nat), xV L k i = none → xV (L ++ [(k, [])]) k i = some (i + L.length, []) := by
    intro L
    induction L with
    | nil => intro i _; simp [xV]
    | cons x L ih =>
      intro i h; obtain ⟨k', v⟩ := x; rw [cons_append]; simp only [xV] at h ⊢
      split at h
      · cases h
      grind
  simpa using this L 0 h
theorem j84 {L : RcL} {a : Ar} (h : xV L (a.i, a.o) 0 = none) : rcA L c a = (L ++ [((a.i, a.o), [])]).set L.length ((a.i, a.o), vB [] a.t (c + a.w)) := by
  have h1 : rc1 L (a.i, a.o) = L ++ [((a.i, a.o), [])] := by unfold rc1; rw [h]
  have h2 := qL5 h; unfold rcA; rw [h1]; unfold rc2; rw [h2]; rfl
theorem qG2 {L : RcL} {a : Ar} (h : xV L (a.i, a.o) 0 = some (j, lj)) (h2 : zK lj a.t = none ∨ ∃ w, zK lj a.t = some w ∧ c + a.w < w) : rcA L c a = L.set j ((a.i, a.o), vB lj a.t (c + a.w)) := by
  grind [rc1, rcA, rc2]
theorem j85 {L : RcL} {w : Int} {a : Ar} (h : xV L (a.i, a.o) 0 = some (j, lj)) (h2 : zK lj a.t = some w) (h3 : ¬ c + a.w < w) : rcA L c a = L := by grind [rc1, rcA, rc2]
end Go.Proofs.YthiknkcigcglkaaGreatDoor
