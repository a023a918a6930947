/- A heap of ways finds the cheapest ends: of the ways to a state only the first N are followed. -/
import Derived.Test.YtnpbdcjfealoeaaKb1
namespace Go.Proofs.Ytnpbdcjfealoeaa
open Go.RowKit
set_option linter.unusedSimpArgs false
set_option linter.unusedVariables false

/-- A way: where it is (-1: at its end), what it costs, what it can cost at the end. -/
structure Wy where
  a : Int
  c : Nat
  l : Nat
def tl (E : Nat → Nat → Nat) (e : Wy) (v : Nat) : Nat := if e.c ≤ v then (if e.a < 0 then 1 else E e.a.toNat (v - e.c)) else 0
def tls (E : Nat → Nat → Nat) (Q : List Wy) (v : Nat) : Nat := (Q.map fun e => tl E e v).sum
def yc (Q : List Wy) (P : Wy → Bool) : Nat := (Q.filter P).length
def atY (a : Int) (lam : Nat) (e : Wy) : Bool := decide (e.a = a ∧ e.l ≤ lam)
section
variable {E : Nat → Nat → Nat} {Q Q' : List Wy} {e : Wy} {v : Nat} {P R : Wy → Bool}
theorem tls_cons : tls E (e :: Q) v = tl E e v + tls E Q v := by simp [tls]
theorem tls_app : tls E (Q ++ Q') v = tls E Q v + tls E Q' v := by simp [tls]
theorem tls_perm (h : Q.Perm Q') : tls E Q v = tls E Q' v := by
  induction h with
  | nil => rfl
  | cons x _ ih => rw [tls_cons, tls_cons, ih]
  | swap x y l => rw [tls_cons, tls_cons, tls_cons, tls_cons]; omega
  | trans _ _ h1 h2 => exact h1.trans h2
theorem yc_perm (h : Q.Perm Q') : yc Q P = yc Q' P := (h.filter P).length_eq
theorem yc_cons : yc (e :: Q) P = (if P e = true then 1 else 0) + yc Q P := by
  unfold yc
  rw [List.filter_cons]
  split
  · simp; omega
  · simp
theorem yc_app : yc (Q ++ Q') P = yc Q P + yc Q' P := by simp [yc]
theorem yc_mono (h : ∀ e ∈ Q, P e = true → R e = true) : yc Q P ≤ yc Q R := by
  induction Q with
  | nil => exact Nat.le_refl _
  | cons x Q ih =>
    have h1 := ih fun e he => h e (by simp [he])
    have h2 := h x (by simp)
    rw [yc_cons, yc_cons]
    by_cases hp : P x = true
    · rw [if_pos hp, if_pos (h2 hp)]; omega
    · rw [if_neg hp]; omega
theorem yc_two {T : Wy → Bool} (h1 : ∀ e ∈ Q, P e = true → T e = true) (h2 : ∀ e ∈ Q, R e = true → T e = true) (h3 : ∀ e ∈ Q, P e = true → R e = true → False) : yc Q P + yc Q R ≤ yc Q T := by
  induction Q with
  | nil => exact Nat.le_refl _
  | cons x Q ih =>
    have h4 := ih (fun e he => h1 e (by simp [he])) (fun e he => h2 e (by simp [he])) (fun e he => h3 e (by simp [he]))
    rw [yc_cons, yc_cons, yc_cons]
    have a1 := h1 x (by simp)
    have a2 := h2 x (by simp)
    have a3 := h3 x (by simp)
    by_cases hp : P x = true
    · by_cases hr : R x = true
      · exact (a3 hp hr).elim
      · rw [if_pos hp, if_neg hr, if_pos (a1 hp)]; omega
    · by_cases hr : R x = true
      · rw [if_neg hp, if_pos hr, if_pos (a2 hr)]; omega
      · rw [if_neg hp, if_neg hr]; omega
theorem yc_tls (h : ∀ e ∈ Q, P e = true → 1 ≤ tl E e v) : yc Q P ≤ tls E Q v := by
  induction Q with
  | nil => exact Nat.le_refl _
  | cons x Q ih =>
    have h1 := ih fun e he => h e (by simp [he])
    have h2 := h x (by simp)
    rw [yc_cons, tls_cons]
    by_cases hp : P x = true
    · rw [if_pos hp]; have := h2 hp; omega
    · rw [if_neg hp]; omega
theorem tls_zero (h : ∀ e ∈ Q, tl E e v = 0) : tls E Q v = 0 := by
  induction Q with
  | nil => rfl
  | cons x Q ih => rw [tls_cons, h x (by simp), ih fun e he => h e (by simp [he])]
end

structure Kb (N : Nat) (sts : List St) (I : Nat → Nat → Prop) (G : Nat → Nat → Nat → Prop) (E : Nat → Nat → Nat) (E0 : Nat → Nat) (out : List Nat) (Q : List Wy) (sn : Nat → Nat) (lam X : Nat) : Prop where
  it : ∀ e ∈ Q, (e.a = -1 ∧ e.l = e.c) ∨ ∃ q : Nat, e.a = (q : Int) ∧ q < sts.length ∧ dst I G q < big ∧ e.l = e.c + dst I G q
  low : ∀ e ∈ Q, lam ≤ e.l
  bnd : ∀ e ∈ Q, e.c ≤ X * 1000000000
  srt : out.Pairwise (· ≤ ·)
  ole : ∀ x ∈ out, x ≤ lam
  w : ∀ v, v < big → min N (cnt out v + tls E Q v) = E0 v
  ch0 : ∀ q, LeastB I G q 0 → min N (sn q) ≤ out.length + yc Q (atY (-1) lam)
  chS : ∀ q k p v, LeastB I G q (k + 1) → LeastB I G p k → G p q v → dst I G p + v = dst I G q → N ≤ sn p ∨ min N (sn q) ≤ min N (sn p) + yc Q (atY (p : Int) lam)
def chF (s : St) (c : Nat) : List Wy := if s.fin = 1000000001 then [] else [⟨-1, c + s.fin.toNat, c + s.fin.toNat⟩]
def chA (D : Nat → Nat) (c : Nat) (l : List Ar) : List Wy := l.filterMap fun a => if D a.t.toNat = big then none else some ⟨a.t, c + a.w.toNat, c + a.w.toNat + D a.t.toNat⟩
def snU (sn : Nat → Nat) (q : Nat) : Nat → Nat := fun r => if r = q then sn q + 1 else sn r
section
variable {N : Nat} {sts : List St} {I : Nat → Nat → Prop} {G : Nat → Nat → Nat → Prop} {E : Nat → Nat → Nat} {E0 : Nat → Nat} {out : List Nat} {Q Q' : List Wy} {sn : Nat → Nat} {lam X : Nat} {x : Wy}
theorem Kb.perm (h : Kb N sts I G E E0 out Q sn lam X) (hp : Q.Perm Q') : Kb N sts I G E E0 out Q' sn lam X := by
  refine ⟨fun e he => h.it e (hp.mem_iff.2 he), fun e he => h.low e (hp.mem_iff.2 he), fun e he => h.bnd e (hp.mem_iff.2 he), h.srt, h.ole, fun v hv => ?_, fun q hq => ?_, fun q k p v h1 h2 h3 h4 => ?_⟩
  · rw [← tls_perm hp]; exact h.w v hv
  · rw [← yc_perm hp]; exact h.ch0 q hq
  · rw [← yc_perm hp]; exact h.chS q k p v h1 h2 h3 h4
theorem LeastB.uniq {q k j : Nat} (h1 : LeastB I G q k) (h2 : LeastB I G q j) : k = j := by
  have a := h1.2 j h2.1
  have b := h2.2 k h1.1
  omega
theorem Kb.start {q0 : Nat} (hq : q0 < sts.length) (hd : dst I G q0 < big) (hle : ∀ v, E q0 v ≤ N) : Kb N sts I G E (E q0) [] [⟨(q0 : Int), 0, dst I G q0⟩] (fun _ => 0) 0 0 := by
  refine ⟨fun e he => ?_, fun e he => Nat.zero_le _, fun e he => ?_, List.Pairwise.nil, by simp, fun v hv => ?_, fun q _ => by simp, fun q k p v _ _ _ _ => .inr (by simp)⟩
  · simp only [List.mem_singleton] at he
    subst he
    exact .inr ⟨q0, rfl, hq, hd, by simp⟩
  · simp only [List.mem_singleton] at he
    subst he
    exact Nat.zero_le _
  · have := hle v
    simp only [tls, tl, List.map_cons, List.map_nil, List.sum_cons, List.sum_nil, cnt_nil]
    rw [if_pos (Nat.zero_le _), if_neg (by omega)]
    simp only [Int.toNat_natCast, Nat.sub_zero]
    omega
theorem Kb.none (h0 : ∀ v, v < big → E0 v = 0) : Kb N sts I G E E0 [] [] (fun _ => 0) 0 0 :=
  ⟨by simp, by simp, by simp, List.Pairwise.nil, by simp, fun v hv => by rw [h0 v hv]; simp [tls, cnt_nil], fun q _ => by simp, fun q k p v _ _ _ _ => .inr (by simp)⟩
theorem tl_low (hE : Ed N sts I G E) {e : Wy} (hi : (e.a = -1 ∧ e.l = e.c) ∨ ∃ q : Nat, e.a = (q : Int) ∧ q < sts.length ∧ dst I G q < big ∧ e.l = e.c + dst I G q) {v : Nat} (hv : v < big) (h : v < e.l) : tl E e v = 0 := by
  unfold tl
  rcases hi with ⟨h1, h2⟩ | ⟨q, h1, h2, h3, h4⟩
  · rw [if_neg (by omega)]
  · split
    · rw [if_neg (by omega), h1, Int.toNat_natCast]
      refine Classical.byContradiction fun hne => ?_
      have := hE.zero q (v - e.c) (by omega) (by omega)
      omega
    · rfl
theorem tl_pos (hE : Ed N sts I G E) (hN : 1 ≤ N) {e : Wy} (hi : (e.a = -1 ∧ e.l = e.c) ∨ ∃ q : Nat, e.a = (q : Int) ∧ q < sts.length ∧ dst I G q < big ∧ e.l = e.c + dst I G q) {v : Nat} (h : e.l ≤ v) : 1 ≤ tl E e v := by
  unfold tl
  rcases hi with ⟨h1, h2⟩ | ⟨q, h1, h2, h3, h4⟩
  · rw [if_pos (by omega), if_pos (by omega)]; exact Nat.le_refl _
  · rw [if_pos (by omega), if_neg (by omega), h1, Int.toNat_natCast]
    exact hE.pos q _ hN h3 (by omega)
open Classical in
/-- What has been followed often enough has left enough behind. -/
theorem Kb.chain (h : Kb N sts I G E E0 out Q sn lam X) : ∀ (k q : Nat), LeastB I G q k → min N (sn q) ≤ out.length + yc Q (fun e => decide (e.l ≤ lam ∧ (e.a = -1 ∨ ∃ j : Nat, j < k ∧ 0 ≤ e.a ∧ LeastB I G e.a.toNat j)))
  | 0, q, hq => by
    have h1 := h.ch0 q hq
    have h2 := yc_mono (Q := Q) (P := atY (-1) lam) (R := fun e => decide (e.l ≤ lam ∧ (e.a = -1 ∨ ∃ j : Nat, j < 0 ∧ 0 ≤ e.a ∧ LeastB I G e.a.toNat j))) (fun e _ he => by
      simp only [atY, decide_eq_true_eq] at he ⊢
      exact ⟨he.2, .inl he.1⟩)
    omega
  | k + 1, q, hq => by
    obtain ⟨p, v, h1, h2, h3, h4⟩ := hq.pred
    have ih := Kb.chain h k p h1
    have h5 := yc_two (Q := Q) (P := fun e => decide (e.l ≤ lam ∧ (e.a = -1 ∨ ∃ j : Nat, j < k ∧ 0 ≤ e.a ∧ LeastB I G e.a.toNat j))) (R := atY (p : Int) lam) (T := fun e => decide (e.l ≤ lam ∧ (e.a = -1 ∨ ∃ j : Nat, j < k + 1 ∧ 0 ≤ e.a ∧ LeastB I G e.a.toNat j))) (fun e _ he => by
      simp only [decide_eq_true_eq] at he ⊢
      obtain ⟨a1, a2⟩ := he
      refine ⟨a1, ?_⟩
      rcases a2 with a2 | ⟨j, a2, a3, a4⟩
      · exact .inl a2
      · exact .inr ⟨j, by omega, a3, a4⟩) (fun e _ he => by
      simp only [atY, decide_eq_true_eq] at he ⊢
      exact ⟨he.2, .inr ⟨k, by omega, by omega, by rw [he.1, Int.toNat_natCast]; exact h1⟩⟩) (fun e _ ha hb => by
      simp only [atY, decide_eq_true_eq] at ha hb
      rcases ha.2 with a2 | ⟨j, a2, a3, a4⟩
      · omega
      · rw [hb.1, Int.toNat_natCast] at a4
        have := LeastB.uniq a4 h1
        omega)
    rcases h.chS q k p v hq h1 h2 h4 with h6 | h6 <;> omega
theorem atY_mono {a : Int} {lam lam' : Nat} (h : lam ≤ lam') {e : Wy} : atY a lam e = true → atY a lam' e = true := by
  simp only [atY, decide_eq_true_eq]
  rintro ⟨h1, h2⟩
  exact ⟨h1, by omega⟩
/-- A way has come to its end. -/
theorem Kb.ended (h : Kb N sts I G E E0 out (x :: Q) sn lam X) (hx : x.a = -1) (hmin : ∀ e ∈ Q, x.l ≤ e.l) : Kb N sts I G E E0 (out ++ [x.c]) Q sn x.l X := by
  have hxl : x.l = x.c := by
    rcases h.it x (by simp) with ⟨_, h1⟩ | ⟨q, h1, _⟩
    · exact h1
    · omega
  have hlam := h.low x (by simp)
  have hY : ∀ a : Int, yc Q (atY a lam) ≤ yc Q (atY a x.l) := fun a => yc_mono fun e _ he => atY_mono hlam he
  refine ⟨fun e he => h.it e (by simp [he]), hmin, fun e he => h.bnd e (by simp [he]), ?_, fun z hz => ?_, fun v hv => ?_, fun q hq => ?_, fun q k p v h1 h2 h3 h4 => ?_⟩
  · rw [List.pairwise_append]
    refine ⟨h.srt, by simp, fun a ha b hb => ?_⟩
    simp only [List.mem_singleton] at hb
    subst hb
    have := h.ole a ha
    omega
  · rcases List.mem_append.1 hz with hz | hz
    · have := h.ole z hz; omega
    · simp only [List.mem_singleton] at hz; omega
  · have h1 := h.w v hv
    rw [tls_cons] at h1
    rw [cnt_app, cnt_cons, cnt_nil, ← h1]
    have : tl E x v = if x.c ≤ v then 1 else 0 := by unfold tl; rw [if_pos (show x.a < 0 by omega)]
    rw [this]
    congr 1; omega
  · have h1 := h.ch0 q hq
    have h2 := hY (-1)
    rw [yc_cons] at h1
    rw [List.length_append, List.length_singleton]
    split at h1 <;> omega
  · have h5 := h.chS q k p v h1 h2 h3 h4
    have h6 := hY (p : Int)
    rw [yc_cons, if_neg (by simp only [atY, decide_eq_true_eq]; omega)] at h5
    rcases h5 with h5 | h5
    · exact .inl h5
    · exact .inr (by omega)
open Classical in
/-- A way to a state to which enough ways have been followed. -/
theorem Kb.prune (hE : Ed N sts I G E) (h : Kb N sts I G E E0 out (x :: Q) sn lam X) {q : Nat} (hx : x.a = (q : Int)) (hmin : ∀ e ∈ Q, x.l ≤ e.l) (hs : N ≤ sn q) : Kb N sts I G E E0 out Q (snU sn q) x.l X := by
  have hxi := h.it x (by simp)
  have hlam := h.low x (by simp)
  have hsn : ∀ r, min N (snU sn q r) = min N (sn r) := fun r => by
    unfold snU
    by_cases e : r = q
    · subst e; rw [if_pos rfl]; omega
    · rw [if_neg e]
  have hY : ∀ a : Int, yc Q (atY a lam) ≤ yc Q (atY a x.l) := fun a => yc_mono fun e _ he => atY_mono hlam he
  refine ⟨fun e he => h.it e (by simp [he]), hmin, fun e he => h.bnd e (by simp [he]), h.srt, fun z hz => Nat.le_trans (h.ole z hz) hlam, fun v hv => ?_, fun r hr => ?_, fun r k p v h1 h2 h3 h4 => ?_⟩
  · have h1 := h.w v hv
    rw [tls_cons] at h1
    by_cases hvl : v < x.l
    · rw [tl_low hE hxi hv hvl] at h1
      rw [← h1]; congr 1; omega
    · obtain ⟨q', hq1, hq2, hq3, hq4⟩ : ∃ q' : Nat, x.a = (q' : Int) ∧ q' < sts.length ∧ dst I G q' < big ∧ x.l = x.c + dst I G q' := by
        rcases hxi with ⟨h2, _⟩ | h2
        · omega
        · exact h2
      obtain rfl : q' = q := by omega
      obtain ⟨k, hk⟩ := leastB_ex hq3
      have hc := h.chain k q' hk
      rw [yc_cons, if_neg (by
        simp only [decide_eq_true_eq]
        rintro ⟨_, h2 | ⟨j, h2, h3, h4⟩⟩
        · omega
        · rw [hq1, Int.toNat_natCast] at h4
          have := LeastB.uniq h4 hk
          omega)] at hc
      by_cases hN : N = 0
      · subst hN
        simp only [Nat.zero_min] at h1 ⊢
        exact h1
      · have h2 := yc_tls (E := E) (v := v) (Q := Q) (P := fun e => decide (e.l ≤ lam ∧ (e.a = -1 ∨ ∃ j : Nat, j < k ∧ 0 ≤ e.a ∧ LeastB I G e.a.toNat j))) (fun e he hp => by
          simp only [decide_eq_true_eq] at hp
          exact tl_pos hE (by omega) (h.it e (by simp [he])) (by omega))
        have h3 : cnt out v = out.length := cnt_all fun z hz => by have := h.ole z hz; omega
        omega
  · rw [hsn]
    have h1 := h.ch0 r hr
    have h2 := hY (-1)
    rw [yc_cons, if_neg (by simp only [atY, decide_eq_true_eq]; omega)] at h1
    omega
  · rw [hsn, hsn]
    by_cases e : p = q
    · subst e; left; unfold snU; rw [if_pos rfl]; omega
    · have h5 := h.chS r k p v h1 h2 h3 h4
      have h6 := hY (p : Int)
      rw [yc_cons, if_neg (by simp only [atY, decide_eq_true_eq]; omega)] at h5
      rcases h5 with h5 | h5
      · left; unfold snU; rw [if_neg e]; exact h5
      · right; omega
theorem chF_tl {s : St} {c v : Nat} (hf : s.fin = 1000000001 ∨ 0 ≤ s.fin ∧ s.fin ≤ 1000000000) (h : c ≤ v) : tls E (chF s c) v = finC s (v - c) := by
  unfold chF finC
  by_cases e : s.fin = 1000000001
  · rw [if_pos e, if_neg (by simp [e])]; rfl
  · rw [if_neg e]
    simp only [tls, tl, List.map_cons, List.map_nil, List.sum_cons, List.sum_nil, Nat.add_zero]
    by_cases h1 : c + s.fin.toNat ≤ v
    · rw [if_pos h1, if_pos (by decide), if_pos (by omega)]
    · rw [if_neg h1, if_neg (by omega)]
theorem chA_tl {c v : Nat} (h : c ≤ v) (h0 : ∀ t u, u ≤ v → dst I G t = big → E t u = 0) : ∀ {l : List Ar}, (∀ a ∈ l, 0 ≤ a.t) → tls E (chA (dst I G) c l) v = arcC E l (v - c)
  | [], _ => rfl
  | a :: l, hl => by
    have ih := chA_tl h h0 (l := l) fun b hb => hl b (by simp [hb])
    have ha := hl a (by simp)
    rw [arcC_cons, ← ih]
    by_cases e : dst I G a.t.toNat = big
    · have : chA (dst I G) c (a :: l) = chA (dst I G) c l := List.filterMap_cons_none (if_pos e)
      rw [this]
      have : shf (E a.t.toNat) a.w.toNat (v - c) = 0 := by
        unfold shf; split
        · exact h0 _ _ (Nat.le_trans (Nat.sub_le _ _) (Nat.sub_le _ _)) e
        · rfl
      rw [this, Nat.zero_add]
    · have : chA (dst I G) c (a :: l) = ⟨a.t, c + a.w.toNat, c + a.w.toNat + dst I G a.t.toNat⟩ :: chA (dst I G) c l := List.filterMap_cons_some (if_neg e)
      rw [this, tls_cons]
      have h9 : tl E ⟨a.t, c + a.w.toNat, c + a.w.toNat + dst I G a.t.toNat⟩ v = shf (E a.t.toNat) a.w.toNat (v - c) := by
        unfold tl shf
        simp only
        by_cases h1 : c + a.w.toNat ≤ v
        · rw [if_pos h1, if_neg (by omega), if_pos (by omega), Nat.sub_sub]
        · rw [if_neg h1, if_neg (by omega)]
      rw [h9]
theorem ch_zero {s : St} {c v : Nat} {l : List Ar} {D : Nat → Nat} (h : v < c) : tls E (chF s c) v = 0 ∧ tls E (chA D c l) v = 0 := by
  constructor
  · refine tls_zero fun e he => ?_
    unfold chF at he
    split at he
    · cases he
    · simp only [List.mem_singleton] at he
      subst he
      unfold tl; rw [if_neg (by simp only; omega)]
  · refine tls_zero fun e he => ?_
    unfold chA at he
    obtain ⟨a, _, h1⟩ := List.mem_filterMap.1 he
    split at h1
    · cases h1
    · simp only [Option.some.injEq] at h1
      subst h1
      unfold tl; rw [if_neg (by simp only; omega)]
/-- A way is followed. -/
theorem Kb.expand (hE : Ed N sts I G E) (hK : KG sts I G) (h : Kb N sts I G E E0 out (x :: Q) sn lam X) {q : Nat} {s : St} (hx : x.a = (q : Int)) (hq : sts[q]? = some s) (hmin : ∀ e ∈ Q, x.l ≤ e.l) (hs : sn q < N) : Kb N sts I G E E0 out (chF s x.c ++ (chA (dst I G) x.c s.arcs ++ Q)) (snU sn q) x.l (X + 1) := by
  have hxi := h.it x (by simp)
  have hlam := h.low x (by simp)
  have hxb := h.bnd x (by simp)
  have hsf := hK.fin s (List.mem_of_getElem? hq)
  have hsa := hK.arc s (List.mem_of_getElem? hq)
  obtain ⟨hq2, hq3, hq4⟩ : q < sts.length ∧ dst I G q < big ∧ x.l = x.c + dst I G q := by
    rcases hxi with ⟨h2, _⟩ | ⟨q', h1, h2⟩
    · omega
    · obtain rfl : q' = q := by omega
      exact h2
  have hY : ∀ a : Int, yc Q (atY a lam) ≤ yc Q (atY a x.l) := fun a => yc_mono fun e _ he => atY_mono hlam he
  have hF : ∀ e ∈ chF s x.c, e.a = -1 ∧ e.l = e.c ∧ x.l ≤ e.l ∧ e.c ≤ x.c + 1000000000 := fun e he => by
    unfold chF at he
    split at he
    · cases he
    · rename_i hne
      simp only [List.mem_singleton] at he
      subst he
      have := (dst_spec (Init := I) (Edge := G) q).2.2 s.fin.toNat (.init _ _ (hK.ini.2 ⟨s, hq, by omega, by omega⟩))
      refine ⟨rfl, rfl, ?_, ?_⟩
      · show x.l ≤ x.c + s.fin.toNat; omega
      · show x.c + s.fin.toNat ≤ _; omega
  have hA : ∀ e ∈ chA (dst I G) x.c s.arcs, (∃ t : Nat, e.a = (t : Int) ∧ t < sts.length ∧ dst I G t < big ∧ e.l = e.c + dst I G t) ∧ x.l ≤ e.l ∧ e.c ≤ x.c + 1000000000 := fun e he => by
    unfold chA at he
    obtain ⟨a, ha, h1⟩ := List.mem_filterMap.1 he
    split at h1
    · cases h1
    · rename_i hne
      simp only [Option.some.injEq] at h1
      subst h1
      have h2 := hsa a ha
      obtain ⟨d1, d2, d3⟩ := dst_spec (Init := I) (Edge := G) a.t.toNat
      obtain ⟨j, hj⟩ := List.getElem?_of_mem ha
      have h3 := (dst_spec (Init := I) (Edge := G) q).2.2 _ (.step a.t.toNat q _ a.w.toNat (d2 (by omega)) (hK.edge.2 ⟨s, j, a, hq, hj, by omega, by omega⟩))
      refine ⟨⟨a.t.toNat, by simp only; omega, by omega, by omega, rfl⟩, ?_, ?_⟩
      · show x.l ≤ x.c + a.w.toNat + dst I G a.t.toNat; omega
      · show x.c + a.w.toNat ≤ _; omega
  have hb1 : x.c + 1000000000 ≤ (X + 1) * 1000000000 := by rw [Nat.add_mul, Nat.one_mul]; omega
  refine ⟨fun e he => ?_, fun e he => ?_, fun e he => ?_, h.srt, fun z hz => Nat.le_trans (h.ole z hz) hlam, fun v hv => ?_, fun r hr => ?_, fun r k p v h1 h2 h3 h4 => ?_⟩
  · rcases List.mem_append.1 he with he | he
    · exact .inl ⟨(hF e he).1, (hF e he).2.1⟩
    · rcases List.mem_append.1 he with he | he
      · exact .inr (hA e he).1
      · exact h.it e (by simp [he])
  · rcases List.mem_append.1 he with he | he
    · exact (hF e he).2.2.1
    · rcases List.mem_append.1 he with he | he
      · exact (hA e he).2.1
      · exact hmin e he
  · rcases List.mem_append.1 he with he | he
    · have := (hF e he).2.2.2; omega
    · rcases List.mem_append.1 he with he | he
      · have := (hA e he).2.2; omega
      · have := h.bnd e (by simp [he])
        rw [Nat.add_mul, Nat.one_mul]; exact Nat.le_trans this (Nat.le_add_right _ _)
  · have h1 := h.w v hv
    rw [tls_cons] at h1
    rw [tls_app, tls_app, ← h1]
    by_cases hc : x.c ≤ v
    · rw [chF_tl hsf hc, chA_tl hc (fun t u hu ht => by
        refine Classical.byContradiction fun hne => ?_
        have := hE.zero t u (by omega) (by omega)
        omega) (fun a ha => (hsa a ha).1.1)]
      have h2 : tl E x v = min N (finC s (v - x.c) + arcC E s.arcs (v - x.c)) := by
        unfold tl
        rw [if_pos hc, if_neg (by omega), hx, Int.toNat_natCast, hE.fix]
        unfold stepC
        rw [hq]
      rw [h2]
      omega
    · obtain ⟨h2, h3⟩ := ch_zero (E := E) (s := s) (l := s.arcs) (D := dst I G) (show v < x.c by omega)
      have h4 : tl E x v = 0 := by unfold tl; rw [if_neg hc]
      rw [h2, h3, h4]
      congr 1; omega
  · rw [yc_app, yc_app]
    have h1 := h.ch0 r hr
    have h2 := hY (-1)
    rw [yc_cons, if_neg (by simp only [atY, decide_eq_true_eq]; omega)] at h1
    by_cases e : r = q
    · subst e
      obtain ⟨h3, h4⟩ := tight_zero hr.1
      obtain ⟨s', h5, h6, h7⟩ := hK.ini.1 h4
      rw [hq] at h5
      simp only [Option.some.injEq] at h5
      subst h5
      have h8 : 1 ≤ yc (chF s x.c) (atY (-1) x.l) := by
        unfold chF
        rw [if_neg (by omega), yc_cons, if_pos (by simp only [atY, decide_eq_true_eq]; exact ⟨trivial, by omega⟩)]
        omega
      unfold snU
      rw [if_pos rfl]
      omega
    · unfold snU
      rw [if_neg e]
      omega
  · rw [yc_app, yc_app]
    have h5 := h.chS r k p v h1 h2 h3 h4
    have h6 := hY (p : Int)
    rw [yc_cons] at h5
    by_cases e : r = q
    · subst e
      have hpr : p ≠ r := by
        rintro rfl
        have := LeastB.uniq h1 h2
        omega
      obtain ⟨s', j, a, g1, g2, g3, g4⟩ := hK.edge.1 h3
      rw [hq] at g1
      simp only [Option.some.injEq] at g1
      subst g1
      have h8 : 1 ≤ yc (chA (dst I G) x.c s.arcs) (atY (p : Int) x.l) := by
        have hm : (⟨a.t, x.c + a.w.toNat, x.c + a.w.toNat + dst I G a.t.toNat⟩ : Wy) ∈ chA (dst I G) x.c s.arcs := by
          unfold chA
          refine List.mem_filterMap.2 ⟨a, List.mem_of_getElem? g2, ?_⟩
          rw [if_neg]
          have := leastB_lt h2
          rw [show a.t.toNat = p by omega]; omega
        unfold yc
        refine List.length_pos_of_mem (a := ⟨a.t, x.c + a.w.toNat, x.c + a.w.toNat + dst I G a.t.toNat⟩) (List.mem_filter.2 ⟨hm, ?_⟩)
        simp only [atY, decide_eq_true_eq]
        refine ⟨g3, ?_⟩
        rw [show a.t.toNat = p by omega]; omega
      rw [if_neg (by simp only [atY, decide_eq_true_eq]; omega)] at h5
      unfold snU
      rw [if_pos rfl, if_neg hpr]
      rcases h5 with h5 | h5
      · exact .inl h5
      · right; omega
    · by_cases ep : p = q
      · subst ep
        unfold snU
        rw [if_neg e, if_pos rfl]
        rcases h5 with h5 | h5
        · exact .inl (by omega)
        · right
          split at h5 <;> omega
      · rw [if_neg (by simp only [atY, decide_eq_true_eq]; omega)] at h5
        unfold snU
        rw [if_neg e, if_neg ep]
        rcases h5 with h5 | h5
        · exact .inl h5
        · right; omega
/-- Nothing is left, or enough has been found. -/
theorem Kb.done (hE : Ed N sts I G E) (h : Kb N sts I G E E0 out Q sn lam X) (hl : out.length ≤ N) (hd : Q = [] ∨ out.length = N) : ∀ v, v < big → cnt out v = E0 v := by
  intro v hv
  have h1 := h.w v hv
  have h2 := cnt_le out v
  rcases hd with rfl | hd
  · simp only [tls, List.map_nil, List.sum_nil] at h1
    omega
  · by_cases hvl : lam ≤ v
    · have h3 : cnt out v = out.length := cnt_all fun z hz => Nat.le_trans (h.ole z hz) hvl
      omega
    · rw [tls_zero fun e he => tl_low hE (h.it e he) hv (by have := h.low e he; omega)] at h1
      omega
/-- An end that costs too much: the document finds one too. -/
theorem Kb.over (hE : Ed N sts I G E) (h : Kb N sts I G E E0 out (x :: Q) sn lam X) (hx : x.a = -1) (hmin : ∀ e ∈ Q, x.l ≤ e.l) (hl : out.length < N) (ho : ∀ y ∈ out, y ≤ 1000000000) (hc : 1000000000 < x.c) (hcb : x.c < big) {L : List Nat} (hL : ∀ v, v < big → cnt L v = E0 v) : ∃ y ∈ L, 1000000000 < y := by
  have hbig := big_eq
  have hxl : x.l = x.c := by
    rcases h.it x (by simp) with ⟨_, h1⟩ | ⟨q, h1, _⟩
    · exact h1
    · omega
  refine Classical.byContradiction fun hno => ?_
  have hall : ∀ y ∈ L, y ≤ 1000000000 := fun y hy => Classical.byContradiction fun h => hno ⟨y, hy, by omega⟩
  have h1 := h.w 1000000000 (by omega)
  have h2 := h.w x.c hcb
  rw [← hL _ (by omega), cnt_all hall] at h1
  rw [← hL _ hcb, cnt_all (l := L) fun y hy => by have := hall y hy; omega] at h2
  rw [tls_zero fun e he => tl_low hE (h.it e he) (by omega) (by
    rcases List.mem_cons.1 he with rfl | he
    · omega
    · have := hmin e he; omega), cnt_all ho] at h1
  rw [tls_cons, cnt_all (l := out) (fun y hy => by have := ho y hy; omega)] at h2
  have h3 : tl E x x.c = 1 := by unfold tl; rw [if_pos (Nat.le_refl _), if_pos (by omega)]
  omega
end
end Go.Proofs.Ytnpbdcjfealoeaa
