/- Part 11 of what the law SameSames rests on. -/
import Derived.Deep.Upon
import Derived.Lib.Builder
import Derived.Scope
import Derived.Laws.Externs
import Derived.Test.YthiknkcigcglkaaGreatDoorPkSS4
import Derived.Test.YthiknkcigcglkaaGreatDoorPkSS9
namespace Go.Proofs.YthiknkcigcglkaaGreatDoor
open Go.RowKit
open Go.Proofs.Tryz
open Bool (and_eq_true)
open List (all_eq_true append_assoc append_nil cons_append flatMap_cons length_append length_cons length_map length_take map_append map_cons map_nil map_set map_toArray mem_append mem_cons mem_cons_of_mem mem_map mem_of_getElem? nil_append set_cons_succ set_cons_zero take_of_length_le)
open Nat (le_refl le_trans lt_of_lt_of_le succ_mul zero_add)
open Option (map_some)
set_option linter.unusedSimpArgs false
set_option linter.unusedVariables false
set_option maxRecDepth 100000
set_option maxHeartbeats 8000000
variable {row : Row} {R base bt ebt esz id len m p r' r0 rb sz : Nat} {K args zs : List V} {H lits : List (Nat × Row)} {b b' : Bool} {v : V} {ez z : Value} {f : FuncId} {fn : Func} {rest : List Oper}
abbrev stV (s : St) : List V := (stD s).map V.d
theorem qg2 (m : zr) : Fn prog 6 [mV m] (fun v => v = mV m) := by
 refine qD m 0 rfl fun hb _ => ?_; obtain ⟨st, sts⟩ := m; obtain ⟨n, hn⟩ : ∃ n, sts.length = n := ⟨_, rfl⟩; simp only [hn] at hb; refine qc 35 fun w0 out => ?_; refine W96 ?_; refine qe8 ?_; refine q9 rfl (zp (l := [.i 0, .nil]) 3 xN rfl rfl rfl rfl) ?_; refine x8 ?_; refine qq 3 1 100 2 35 rfl rfl rfl zT4 ?_
 refine qb (fun s' => ∃ k : Nat, k ≤ n ∧ s' = ⟨35, [(1, .ref 1 0), (2, .ref 2 0), (3, .ref 3 0), (4, .i k)], [(1, ⟨24, [.i st, .d (zq sts)], false, 0⟩), (2, ⟨24, [.i 0, .nil], false, 0⟩),
  (3, ⟨24, [.i st, .own 100 2 k (decide (k = 0))], false, 0⟩), (100, ⟨35, (sts.take k).flatMap stV, decide (k = 0), 2⟩)], []⟩) (fun s' => n - s'.nat 4) ⟨_, ?_, 0, by omega, rfl⟩ ?_
 ·exact q8
 rintro s' ⟨k, hk, rfl⟩
 by_cases zk : k < n
 ·obtain ⟨x, hx⟩ := zl hn zk
  have xA : ((sts.take k).flatMap stV).length = k * 2 := by rw [vh (sz := 2) (fun _ => rfl), length_take]; omega
  have vl : (sts.take (k + 1)).flatMap stV = (sts.take k).flatMap stV ++ stV x := by rw [x5 hx]; simp
  refine wn ?_; refine qi [(0, true), (1, true), (2, true), (3, true), (4, true), (5, true), (6, true), (7, true), (8, true), (9, true), (10, true), (11, true), (12, true), (13, true), (14, false), (15, false), (16, false), (17, false), (18, false), (19, false)] (fun i => !([17, 18, 19] : List Nat).contains i) 20 zh zh rfl zh ?_; refine vF ?_; refine qm ?_
  refine qI rfl rfl (jo9 underlying33 zO rfl zj zj zj rfl rfl rfl (by first | (simp [arD, D.one, Value.oneCell']; done) | assumption) rfl) ?_; refine qK rfl rfl rfl (xI (vs := [(0, _), (1, _)]) (zs := [.i 0, .nil]) qa2 xD rfl rfl rfl rfl) ?_; refine qI rfl rfl (zN (vs := [(0, _)]) (zs := [.i 0, .nil]) 31 underlying22 xD rfl rfl zj zj zj rfl rfl rfl rfl zT0 rfl rfl) ?_; refine qO ?_
  refine qo rfl rfl rfl (xK underlying22 xD rfl zj rfl rfl rfl rfl rfl rfl zT5 zT0 rfl rfl rfl rfl rfl rfl rfl zj zg zg rfl) ?_; refine g0 ?_; refine qH rfl rfl rfl rfl (xe underlying24 rfl rfl rfl qo6 zj rfl) ?_; refine jp2 ?_; refine qf1 ?_; refine ⟨_, ?_, ⟨k + 1, by omega, rfl⟩, ?_⟩
  ·rw [vl]; exact q8
  exact zM
 skip; refine W53 ?_; obtain rfl : k = n := by omega
 rw [take_of_length_le zg]; refine qs 3 1 32 (sts.map stD) rfl rfl rfl zj rfl rfl (by simpa using hn) zg (vx (enc := stD) (sz := 2) (l := sts) (fun _ => rfl) rfl) ?_; refine zC ?_; exact ⟨[_], ⟨⟨2, 0, _, _, rfl, rfl, rfl, underlying24, .inr ⟨rfl, _, _, _, _, xN, rfl, rfl, rfl⟩⟩, trivial⟩, rfl, zU0⟩
section
variable {β : Type} {F : Fam β} {c : Cx} {s : S} {Q : Exit → S → Prop}
theorem Fam.adopt_get (F : Fam β) : ∀ (l : List β) (k j : Nat) (v' : V), (∀ x ∈ l, F.it x = []) → (F.cells k l)[j]? = some v' → ∃ v, (l.flatMap fun x => (F.pre x).map V.d ++ [V.nil])[j]? = some v ∧ (v' = v ∧ (∀ r, v.has r = false) ∨ ∃ k', v' = .own k' F.sz 0 true ∧ v = .nil)
  | [], k, j, v', hl, h => by simp [Fam.cells] at h
  | x :: l, k, j, v', hl, h => by
    have hx : F.ownV k x = .own k F.sz 0 true := by simp [Fam.ownV, hl x zx]
    simp only [Fam.cells, hx] at h; rw [flatMap_cons, append_assoc]
    by_cases hj : j < (F.pre x).length
    · rw [List.getElem?_append_left (by simpa using hj)] at h ⊢
      refine ⟨v', h, .inl ⟨rfl, ?_⟩⟩; rw [List.getElem?_map] at h
      cases hd : (F.pre x)[j]? with
      | none => rw [hd] at h; cases h
      | some d => rw [hd] at h; simp at h; subst h; intro r; rfl
    rw [List.getElem?_append_right (by simp; omega)] at h ⊢; simp only [length_map] at h ⊢
    cases hjm : j - (F.pre x).length with
    | zero =>
      rw [hjm] at h; simp at h; subst h; exact ⟨_, rfl, .inr ⟨k, rfl, rfl⟩⟩
    | succ i =>
      rw [hjm, List.getElem?_cons_succ] at h
      simpa using Fam.adopt_get F l (k + 1) i v' (fun y hy => hl y (by simp [hy])) h
theorem jc {code : Code} (F : Fam β) (base rb : Nat) (L : List β) (hr : fnd s.H rb = some row) (hn : row.nil = false) (hc : row.cells = L.flatMap fun x => (F.pre x).map V.d ++ [V.nil]) (hL : ∀ x ∈ L, F.it x = []) (vW : s.H.all (fun x => decide (x.1 < base)) = true)
    (h : AW c code Q ⟨s.n, s.T, (rb, { row with cells := F.cells base L }) :: s.H ++ F.objs base L, s.K⟩) : AW c code Q s := fun g a w hs => h _ a w (hs.conv id rfl
  (fun i v hv => ⟨v, hv, .same v fun _ _ => rfl⟩)
  (fun r row' vS => by
    have vS : fnd ((rb, { row with cells := F.cells base L }) :: (s.H ++ F.objs base L)) r = some row' := vS; rw [fnd] at vS
    by_cases e : rb = r
    · subst e
      rw [if_pos zx] at vS; have vS := Option.some.inj vS; subst vS; refine .inr ⟨hn, row, hr, hn, rfl, rfl, fun j v' hv => ?_⟩; obtain ⟨v, h1, h2⟩ := Fam.adopt_get F L base j v' hL hv; refine ⟨v, by rw [hc]; exact h1, ?_⟩
      rcases h2 with ⟨rfl, h2⟩ | ⟨k', rfl, rfl⟩
      · exact .same _ fun _ _ => rfl
      exact .nil _ _
    rw [if_neg (by simpa using e), vR] at vS
    cases hl : fnd s.H r with
    | some row2 =>
      rw [hl] at vS; have vS := Option.some.inj vS; subst vS
      cases hnn : row2.nil with
      | true => exact .inl ⟨rfl, hs.nul r row2 hl hnn⟩
      | false => exact .inr ⟨rfl, row2, hl, hnn, rfl, rfl, fun j v hv => ⟨v, hv, .same v fun _ _ => rfl⟩⟩
    | none =>
      rw [hl] at vS; obtain ⟨p, x, rfl, hx, rfl⟩ := Fam.objs_inv vS
      exact .inl (by simp [Fam.row, hL x (mem_of_getElem? hx)]))
  (fun j v hv => ⟨v, hv, .same v fun _ _ => rfl⟩)
  (fun _ _ _ _ _ _ _ _ e => e))
theorem Fam.data_get (F : Fam β) {m : Nat} (hm : ∀ x, (F.pre x).length = m) : ∀ (l : List β) (k j : Nat) (v' : V), (l.flatMap fun x => (F.data x).map V.d)[j]? = some v' → ∃ v, (F.cells k l)[j]? = some v ∧ (v' = v ∧ (∀ r, v.has r = false) ∨ ∃ p x, l[p]? = some x ∧ v' = .d (.sl F.sz F.bt (F.it x)) ∧ v = F.ownV (k + p) x)
  | [], k, j, v', h => by simp at h
  | x :: l, k, j, v', h => by
    rw [flatMap_cons] at h; simp only [Fam.cells, Fam.data, map_append, append_assoc] at h ⊢
    by_cases hj : j < m
    · rw [List.getElem?_append_left (by simpa [hm] using hj)] at h ⊢
      refine ⟨v', h, .inl ⟨rfl, ?_⟩⟩; rw [List.getElem?_map] at h
      cases hd : (F.pre x)[j]? with
      | none => rw [hd] at h; cases h
      | some d => rw [hd] at h; simp at h; subst h; intro r; rfl
    rw [List.getElem?_append_right (by simp [hm]; omega)] at h ⊢; simp only [length_map, hm] at h ⊢
    cases hjm : j - m with
    | zero =>
      rw [hjm] at h; simp at h; subst h; exact ⟨_, rfl, .inr ⟨0, x, rfl, rfl, rfl⟩⟩
    | succ i =>
      rw [hjm] at h; simp only [map_cons, map_nil, cons_append, nil_append, List.getElem?_cons_succ] at h; obtain ⟨v, h1, h2⟩ := Fam.data_get F hm l (k + 1) i v' (by simpa [Fam.data] using h); refine ⟨v, by simpa using h1, ?_⟩
      rcases h2 with h2 | ⟨p, y, h3, h4, h5⟩
      · exact .inl h2
      exact .inr ⟨p + 1, y, by simpa using h3, h4, by rw [h5, show k + 1 + p = k + (p + 1) by omega]⟩
theorem jt3 {rows : List (List D)} (hr : ∀ l ∈ rows, l.length = sz) : ∀ (i j : Nat) (l : List D) (u : D), rows[i]? = some l → l[j]? = some u → (rows.flatten.map V.d)[i * sz + j]? = some (.d u) := by
  induction rows with
  | nil => intro i j l u h; simp at h
  | cons y rows ih =>
    intro i j l u h1 h2; have hy := hr y zx; rw [List.flatten_cons, map_append]
    cases i with
    | zero =>
      simp at h1; subst h1; have hj := (List.getElem?_eq_some_iff.1 h2).1; rw [Nat.zero_mul, zero_add, List.getElem?_append_left (by simpa using hj)]; simp [h2]
    | succ i =>
      rw [List.getElem?_append_right (by simp [hy]; rw [succ_mul]; omega)]; simp only [length_map, hy]
      rw [show (i + 1) * sz + j - sz = i * sz + j by rw [succ_mul]; omega]
      exact ih (fun l hl => hr l (by simp [hl])) i j l u (by simpa using h1) h2
theorem j5 {code : Code} (lits : List (Nat × Row)) (rb : Nat) {L : List β} (hH : s.H = lits ++ F.objs base L) (hr : fnd lits rb = some row) (hn : row.nil = false) (hc : row.cells = F.cells base L) (hm : ∀ x, (F.pre x).length = m) (vi : ∀ x, ∀ l ∈ F.it x, l.length = F.sz) (hbt : ∀ x ∈ L, (F.it x).length * F.bt ≤ 140737488355328) (vW : lits.all (fun x => decide (x.1 < base)) = true)
    (hlo : ∀ x ∈ lits, x.1 ≠ rb → ∀ r, base ≤ r → V.hasL r x.2.cells = false) (hT : s.T.all (fun x => x.2.low base) = true) (hK : V.lowL base s.K = true)
    (h : AW c code Q ⟨s.n, s.T, (rb, { row with cells := L.flatMap fun x => (F.data x).map V.d }) :: lits, s.K⟩) : AW c code Q s := fun g a w hs => h _ a w (hs.conv id rfl
  (fun i v hv => ⟨v, hv, .same v fun _ _ => rfl⟩)
  (fun r row' vS => by
    have vS : fnd ((rb, { row with cells := L.flatMap fun x => (F.data x).map V.d }) :: lits) r = some row' := vS
    rw [fnd] at vS
    by_cases e : rb = r
    · subst e
      rw [if_pos zx] at vS; have vS := Option.some.inj vS; subst vS
      refine .inr ⟨hn, row, by show fnd s.H rb = _; rw [hH, vR, hr], hn, rfl, rfl, fun j v' hv => ?_⟩
      obtain ⟨v, h1, h2⟩ := Fam.data_get F hm L base j v' hv; refine ⟨v, by rw [hc]; exact h1, ?_⟩
      rcases h2 with ⟨rfl, h2⟩ | ⟨p, x, h3, rfl, rfl⟩
      · exact .same _ fun _ _ => rfl
      have hfr : fnd s.H (base + p) = some (F.row x) := by rw [hH, vR, bQ vW zg, Fam.objs_get, h3]; rfl
      refine .frz (base + p) F.sz _ F.bt _ _ _ hfr rfl rfl (hbt x (mem_of_getElem? h3)) (jt3 (vi x)) ?_; intro k row2 hk hk2 e
      have hk : fnd ((rb, { row with cells := L.flatMap fun x => (F.data x).map V.d }) :: lits) k = some row2 := hk
      simp only [id] at e; subst e; have kb2 : rb < base := by have := List.all_eq_true.1 vW _ (vo hr); simpa using this
      rw [fnd, if_neg (by simp; omega), bQ vW zg] at hk
      cases hk
    rw [if_neg (by simpa using e)] at vS; have h1 : fnd s.H r = some row' := by rw [hH, vR, vS]
    cases hnn : row'.nil with
    | true => exact .inl ⟨rfl, hs.nul r row' h1 hnn⟩
    | false => exact .inr ⟨rfl, row', h1, hnn, rfl, rfl, fun j v hv => ⟨v, hv, .same v fun _ _ => rfl⟩⟩)
  (fun j v hv => ⟨v, hv, .same v fun _ _ => rfl⟩)
  (fun _ _ _ _ _ _ _ _ e => e))
theorem Sim.famPush {g : Nat → Nat × Nat} {a : Act} {w : World} (hs : Sim c g s a w) (lits : List (Nat × Row)) (rb z : Nat) (x : β) {L : List β} (hH : s.H = lits ++ F.objs base L) (hr : fnd lits rb = some row) (hn : row.nil = false) (hz : fnd lits z = some (F.row x)) (hc : row.cells = F.cells base L ++ ((F.pre x).map V.d ++ [.own z F.sz (F.it x).length (F.it x).isEmpty])) (hzr : z ≠ rb) (vW : lits.all (fun x => decide (x.1 < base)) = true)
    (hlo : ∀ x ∈ lits, x.1 ≠ rb → V.hasL z x.2.cells = false) (hT : s.T.all (fun x => !x.2.has z) = true) (hK : V.hasL z s.K = false) (jt4 : ∀ x ∈ lits, x.1 ≠ rb → ∀ r, base ≤ r → V.hasL r x.2.cells = false) (hT2 : s.T.all (fun x => x.2.low base) = true) (hK2 : V.lowL base s.K = true) : ∃ g', Sim c g' ⟨s.n, s.T, (rb, { row with cells := F.cells base (L ++ [x]) }) :: lits.filter (fun x => x.1 != z) ++ F.objs base (L ++ [x]), s.K⟩ a w := by
  have hzb : z < base := by have := List.all_eq_true.1 vW _ (vo hz); simpa using this
  have kb3 : rb < base := by have := List.all_eq_true.1 vW _ (vo hr); simpa using this
  have hρ : ∀ v : V, v.has (base + L.length) = false → ∀ r, v.has r = true → (if r = base + L.length then z else r) = r := by grind
  have hfo : ∀ r row', fnd ((rb, { row with cells := F.cells base (L ++ [x]) }) :: (lits.filter (fun x => x.1 != z) ++ F.objs base (L ++ [x]))) r = some row' →
      r = rb ∧ row' = { row with cells := F.cells base (L ++ [x]) } ∨ (r ≠ rb ∧ r ≠ z ∧ r < base ∧ fnd lits r = some row') ∨ ∃ p y, r = base + p ∧ L[p]? = some y ∧ row' = F.row y ∨ r = base + L.length ∧ row' = F.row x := by
    intro r row' vS; rw [fnd] at vS
    by_cases e : rb = r
    · grind
    rw [if_neg (by simpa using e), vR] at vS; have e := Ne.symm e
    cases hl : fnd (lits.filter (fun x => x.1 != z)) r with
    | some row2 =>
      rw [hl] at vS; have vS := Option.some.inj vS; subst vS
      by_cases ez : r = z
      · subst ez; rw [yj] at hl; cases hl
      rw [yA _ _ _ ez] at hl; refine .inr (.inl ⟨e, ez, ?_, hl⟩); have := List.all_eq_true.1 vW _ (vo hl)
      simpa using this
    | none =>
      rw [hl] at vS; obtain ⟨p, y, rfl, hy, rfl⟩ := Fam.objs_inv vS; rw [List.getElem?_append] at hy
      split at hy
      · exact .inr (.inr ⟨p, y, .inl ⟨rfl, hy, rfl⟩⟩)
      rename_i wl
      cases hpp : p - L.length with
      | zero =>
        rw [hpp] at hy; simp at hy; subst hy; exact .inr (.inr ⟨p, x, .inr ⟨by omega, rfl⟩⟩)
      | succ i => rw [hpp] at hy; simp at hy
  have qD2 : ∀ r row', fnd lits r = some row' → fnd s.H r = some row' := fun r row' vS => by rw [hH, vR, vS]
  have k57 : ∀ p y, L[p]? = some y → fnd s.H (base + p) = some (F.row y) := fun p y hy => by rw [hH, vR, bQ vW zg, Fam.objs_get, hy]; rfl
  refine ⟨_, hs.conv (fun k => if k = base + L.length then z else k) rfl ?_ ?_ ?_ ?_⟩
  · intro i v hv
    refine ⟨v, hv, .same v (hρ v ?_)⟩; have := List.all_eq_true.1 hT2 _ (vo hv); exact V.low_has zg v this
  · intro r row' vS
    rcases hfo r row' vS with ⟨rfl, rfl⟩ | ⟨e1, e2, e3, h1⟩ | ⟨p, y, ⟨rfl, hy, rfl⟩ | ⟨rfl, rfl⟩⟩
    · refine .inr ⟨hn, row, ?_, hn, rfl, rfl, fun j v' hv => ?_⟩
      · rw [if_neg zg]; exact qD2 _ _ hr
      simp only at hv; rw [Fam.cells_app] at hv; rw [hc]; have hz' : (F.cells base L ++ ((F.pre x).map V.d ++ [F.ownV (base + L.length) x]))[j]? = some v' := hv
      by_cases hj : j < (F.cells base L).length
      · rw [List.getElem?_append_left hj] at hz' ⊢
        refine ⟨v', hz', .same v' (hρ v' ?_)⟩
        cases hh : v'.has (base + L.length) with
        | false => rfl
        | true =>
          exfalso
          -- no element stands there
          have : ∀ (l : List β) (k : Nat) (v : V), v ∈ F.cells k l → v.has (k + l.length) = true → False := by
            intro l
            induction l with
            | nil => intro k v hv; simp [Fam.cells] at hv
            | cons y l ih =>
              intro k v hv hk; simp only [Fam.cells, mem_append, mem_map, mem_cons] at hv
              rcases hv with ⟨d, _, rfl⟩ | rfl | hv
              · simp [V.has] at hk
              · simp [Fam.ownV, V.has] at hk
              grind
          exact this L base v' (mem_of_getElem? hz') hh
      rw [List.getElem?_append_right zg] at hz' ⊢
      by_cases hj2 : j - (F.cells base L).length < (F.pre x).length
      · rw [List.getElem?_append_left (by simpa using hj2)] at hz' ⊢
        refine ⟨v', hz', .same v' (hρ v' ?_)⟩; rw [List.getElem?_map] at hz'
        cases hd : (F.pre x)[j - (F.cells base L).length]? with
        | none => rw [hd] at hz'; cases hz'
        | some d => rw [hd] at hz'; simp at hz'; subst hz'; rfl
      rw [List.getElem?_append_right (by simp; omega)] at hz' ⊢; generalize j - (F.cells base L).length - ((F.pre x).map V.d).length = i at hz' ⊢
      cases i with
      | zero =>
        simp at hz'; subst hz'; refine ⟨_, rfl, ?_⟩
        have := Cv.own (s := s) (s' := ⟨s.n, s.T, (r, { row with cells := F.cells base (L ++ [x]) }) :: lits.filter (fun x => x.1 != z) ++ F.objs base (L ++ [x]), s.K⟩) (ρ := fun k => if k = base + L.length then z else k) (base + L.length) F.sz (F.it x).length (F.it x).isEmpty
        simpa [Fam.ownV] using this
      | succ i => simp at hz'
    · have h2 := qD2 _ _ h1
      cases hnn : row'.nil with
      | true => exact .inl ⟨rfl, hs.nul r row' h2 hnn⟩
      | false =>
        refine .inr ⟨rfl, row', by rw [if_neg zg]; exact h2, hnn, rfl, rfl, fun j v hv => ⟨v, hv, .same v (hρ v ?_)⟩⟩; exact V.hasL_false.1 (jt4 _ (vo h1) e1 _ zg) v (mem_of_getElem? hv)
    · have wl := (List.getElem?_eq_some_iff.1 hy).1
      have h2 := k57 p y hy
      cases hnn : (F.row y).nil with
      | true => exact .inl ⟨rfl, hs.nul _ _ h2 hnn⟩
      | false =>
        refine .inr ⟨rfl, _, by rw [if_neg zg]; exact h2, hnn, rfl, rfl, fun j v hv => ⟨v, hv, .same v (hρ v ?_)⟩⟩; exact V.hasL_false.1 (F.row_hasL y _) v (mem_of_getElem? hv)
    have h2 := qD2 _ _ hz
    cases hnn : (F.row x).nil with
    | true => exact .inl ⟨rfl, hs.nul _ _ h2 hnn⟩
    | false =>
      refine .inr ⟨rfl, _, by rw [if_pos rfl]; exact h2, hnn, rfl, rfl, fun j v hv => ⟨v, hv, .same v (hρ v ?_)⟩⟩; exact V.hasL_false.1 (F.row_hasL x _) v (mem_of_getElem? hv)
  · intro j v hv
    exact ⟨v, hv, .same v (hρ v (V.low_has (b := base) zg v (by
      have : ∀ (l : List V), V.lowL base l = true → ∀ u ∈ l, u.low base = true := by
        intro l
        induction l with
        | nil => intro _ u hu; cases hu
        | cons y l ih =>
          intro hl u hu; simp only [V.lowL, and_eq_true] at hl
          rcases List.mem_cons.1 hu with rfl | hu
          · exact hl.1
          exact ih hl.2 u hu
      exact this _ hK2 v (mem_of_getElem? hv))))⟩
  grind
theorem jd {code : Code} (lits : List (Nat × Row)) (rb z : Nat) (x : β) {L : List β} (hH : s.H = lits ++ F.objs base L) (hr : fnd lits rb = some row) (hn : row.nil = false) (hz : fnd lits z = some (F.row x)) (hc : row.cells = F.cells base L ++ ((F.pre x).map V.d ++ [.own z F.sz (F.it x).length (F.it x).isEmpty])) (hzr : z ≠ rb) (vW : lits.all (fun x => decide (x.1 < base)) = true)
    (hlo : ∀ x ∈ lits, x.1 ≠ rb → V.hasL z x.2.cells = false) (hT : s.T.all (fun x => !x.2.has z) = true) (hK : V.hasL z s.K = false) (jt4 : ∀ x ∈ lits, x.1 ≠ rb → ∀ r, base ≤ r → V.hasL r x.2.cells = false) (hT2 : s.T.all (fun x => x.2.low base) = true) (hK2 : V.lowL base s.K = true)
    (h : AW c code Q ⟨s.n, s.T, (rb, { row with cells := F.cells base (L ++ [x]) }) :: lits.filter (fun x => x.1 != z) ++ F.objs base (L ++ [x]), s.K⟩) : AW c code Q s := fun g a w hs =>
  let ⟨g', h'⟩ := Sim.famPush hs lits rb z x hH hr hn hz hc hzr vW hlo hT hK jt4 hT2 hK2
  h g' a w h'
end
theorem LH.self {n : Nat} {T : List (Nat × V)} {H : List (Nat × Row)} {K : List V} (hk : ∀ r row, fnd H r = some row → True) : ∀ {l : List (Nat × Row)}, (∀ i row, (i, row) ∈ l → fnd H i = some row) → LH ⟨n, T, H, K⟩ l
  | [], _ => trivial
  | (i, row) :: l, h => ⟨h i row zx, LH.self hk fun j r hj => h j r (by simp [hj])⟩
theorem Fam.objs_mem {β : Type} {F : Fam β} : ∀ (l : List β) (k i : Nat) (row : Row), (i, row) ∈ F.objs k l → k ≤ i ∧ fnd (F.objs k l) i = some row
  | [], k, i, row, h => by simp [Fam.objs] at h
  | x :: l, k, i, row, h => by
    simp only [Fam.objs, mem_cons, Prod.mk.injEq] at h
    rcases h with ⟨rfl, rfl⟩ | h
    · exact ⟨le_refl _, by simp [Fam.objs, fnd]⟩
    obtain ⟨h1, h2⟩ := Fam.objs_mem l (k + 1) i row h; refine ⟨by omega, ?_⟩; rw [Fam.objs, fnd, if_neg (by simp; omega), h2]
theorem LH.fam {β : Type} {F : Fam β} {n : Nat} {L : List β} {T : List (Nat × V)} : LH ⟨n, T, F.objs base L, K⟩ (F.objs base L) := LH.self (fun _ _ _ => trivial) fun i row h => (Fam.objs_mem L base i row h).2
theorem LH.skip {β : Type} {F : Fam β} {n r : Nat} {L : List β} {T : List (Nat × V)} (hr : r < base) (h : LH ⟨n, T, H, K⟩ (F.objs base L)) : LH ⟨n, T, (r, row) :: H, K⟩ (F.objs base L) := by
  refine LH.self (fun _ _ _ => trivial) fun i row' hm => ?_; have h1 := (Fam.objs_mem L base i row' hm).1; rw [fnd, if_neg (by simp; omega)]
  have : ∀ (l : List (Nat × Row)), LH ⟨n, T, H, K⟩ l → ∀ i row, (i, row) ∈ l → fnd H i = some row := by
    intro l
    induction l with
    | nil => intro _ i row h; cases h
    | cons x l ih =>
      intro hl i row hm
      rcases List.mem_cons.1 hm with e | hm
      · subst e; exact hl.1
      exact ih hl.2 i row hm
  exact this _ h i row' hm
theorem qb0 {α γ : Type} (n : Nat) (x : α) (f : α → List γ) : (List.replicate n x).flatMap f = (List.replicate n (f x)).flatten := by
  induction n with
  | zero => rfl
  | succ n ih => simp [List.replicate_succ, ih]
theorem jp4 {β : Type} (F : Fam β) (b p : Nat) (x : β) : (F.ownV (b + p) x).low b = false := by simp [Fam.ownV, V.low]
theorem xL {β : Type} (F : Fam β) (k r : Nat) (x : β) : (F.ownV k x).has r = (k == r) := rfl
theorem zP {β : Type} (F : Fam β) {l : List β} {k r : Nat} (h : r < k) : (F.objs k l).all (fun x => x.1 != r && !V.hasL r x.2.cells) = true := Fam.objs_clean l k r h
theorem qx0 {β : Type} (F : Fam β) {l : List β} {k r : Nat} (h : r < k) : (F.objs k l).filter (fun x => x.1 != r) = F.objs k l := Fam.objs_filter l k r h
theorem zL {β : Type} (F : Fam β) {l : List β} {k r : Nat} (h : r < k) : V.hasL r (F.cells k l) = false := Fam.cells_hasL l k r h
theorem nb1 {a b : Nat} (h : a < b) : (a = b + p) = False := by simp; omega
theorem nb2 {a b : Nat} (h : a < b) : (b + p = a) = False := by simp; omega
theorem nb3 {a b : Nat} (h : a < b) : (a == b + p) = false := by simp; omega
theorem nb4 {a b : Nat} (h : a < b) : (b + p == a) = false := by simp; omega
theorem xC {r n : Nat} (h : V.hasL r zs = false) : V.hasL r (List.replicate n zs).flatten = false := by
  induction n with
  | zero => rfl
  | succ n ih => rw [List.replicate_succ, List.flatten_cons, zA, h, ih]; rfl
def BX (e : Nat → Prop) (N : Nat) (W w : World) : Prop := N ≤ w.heap.size ∧ ∀ k, k < N → ¬ e k → w.heap[k]? = W.heap[k]?
structure Ex (c : Cx) (g : Nat → Nat × Nat) (s : S) (r : Nat) (e : Nat → Prop) (w : World) : Prop where
  obj : ∀ k row, k ≠ r → fnd s.H k = some row → row.nil = false → ¬ e (g k).1
  quiet : ∀ k, qt c s.H g k → k < w.heap.size → ¬ e k
  own : ∀ row, fnd s.H r = some row → row.nil = false → e (g r).1
section
variable {c : Cx} {s : S} {o : Oper} {Q : Exit → S → Prop} {g : Nat → Nat × Nat} {a : Act} {w : World} {L : List Oper} {need : Nat → Bool} {l : List (Nat × Bool)} {i r : Nat} {e : Nat → Prop}
theorem BX.cell {N : Nat} {W w : World} {b k : Nat} {v : Value} (h : BX e N W w) (hb : b < N) (he : ¬ e b) (hv : W.cell? ⟨b, k, none⟩ = some v) : w.cell? ⟨b, k, none⟩ = some v := (World.cell?_of_block (w := W) (a := ⟨b, k, none⟩) (h.2 b hb he)).trans hv
def RX (c : Cx) (o : Oper) (s : S) (r : Nat) (v : V) : Prop := ∀ e g a w, Sim c g s a w → Ex c g s r e w → ∃ x, VRep w (qt c s.H g) g v x ∧ ∀ w', BX e w.heap.size w w' → (execOp a.eval o).run c.P w' = .ok (.value x) w'
theorem RP.rx (h : RP c o s v) : RX c o s r v := fun e g a w hs _ => by
  obtain ⟨x, h1, h2⟩ := h g a w hs
  exact ⟨x, h1, fun w' _ => h2 w'⟩
theorem wt {t : TypeId} {d : TypeDesc} {x : Operand} {k : Nat} (hu : c.P.underlying t = some d) (hd : wD d = false) (ho : o.op = .load t x) (hx : s.ev x = some (.ref r0 k)) (hr : fnd s.H r0 = some row) (hn : row.nil = false) (hv : row.cells[k]? = some v) (zT : r0 ≠ r) : RX c o s r v := fun e g a w hs he => by
  have h := hs.ev hx; obtain ⟨arr, h1, _, h2⟩ := hs.obj r0 row hr hn; obtain ⟨y, h3, h4⟩ := h2 k v hv; refine ⟨y, h4, fun w' hb => ?_⟩; have zk : (g r0).1 < w.heap.size := (Array.getElem?_eq_some_iff.1 h1).1; have ux : w'.cell? ⟨(g r0).1, k, none⟩ = some y := hb.cell zk (he.obj r0 row zT hr hn) ((cell_of_row w _ _ _ _ _ h1).trans h3); generalize hy : a.eval x = z at h
  cases h
  simp [execOp, ho, hy, Instr.loadAt, Instr.sureAddr, loadVar, q12 hu, hd, ux]
theorem qb1 {β : Type} {F : Fam β} {t : TypeId} {d : TypeDesc} {x : Operand} {k : Nat} {L : List β} {x0 : β} (hu : c.P.underlying t = some d) (hd : wD d = false) (ho : o.op = .load t x) (hx : s.ev x = some (.ref rb k)) (hr : fnd s.H rb = some row) (hn : row.nil = false) (hc : row.cells = F.cells base L) (hm : ∀ x, (F.pre x).length = m) (hk : k = p * (m + 1) + m) (hp : L[p]? = some x0) (zT : rb ≠ r) : RX c o s r (F.ownV (base + p) x0) :=
  wt hu hd ho hx hr hn (by rw [hc, hk]; exact Fam.cells_own hm L base p x0 hp) zT
def AE1 (c : Cx) (ops : Array Oper) (Q : Exit → S → Prop) (need : Nat → Bool) (r : Nat) (l : List (Nat × Bool)) (s : S) : Prop := ∀ e g a w, Sim c g s a w → Ex c g s r e w → (∀ k, e k → k < w.heap.size) → q31 c.P ops (QQ c Q) (BX e w.heap.size w) need l a w
def AE2 (c : Cx) (ops : Array Oper) (Q : Exit → S → Prop) (need : Nat → Bool) (r : Nat) (l : List (Nat × Bool)) (s : S) : Prop := ∀ W e g a w, Sim c g s a w → Ex c g s r e w → BX e W.heap.size W w → (∀ k, e k → k < W.heap.size) → q31 c.P ops (QQ c Q) (BX e W.heap.size W) need l a w
theorem Ex.put {d : Option Tmp} {v : V} (h : Ex c g s r e w) : Ex c g (s.put d v) r e w := by
  cases d with
  | none => exact h
  | some d => exact ⟨h.obj, h.quiet, h.own⟩
theorem BX.refl (w : World) : BX e w.heap.size w w := ⟨le_refl _, fun _ _ _ => rfl⟩
theorem je {id : Nat} {l : List Oper} (r : Nat) (order : List (Nat × Bool)) (need : Nat → Bool) (N : Nat) (hm : c.P.follows .mixedOrders = true) (yg : Region.noSelect l.toArray = true) (zI : order.length = l.length)
    (x6 : okS .any l.toArray need N order (Array.replicate l.length false) = true) (h : AE1 c l.toArray Q need r order s) : AW c (.region id l.toArray true) Q s := by
  intro g a w hs; refine wp_region_any hm ?_; have hs' : Sim c g s a w.drew := hs.move (Below.drew (Below.refl _ _))
  have hex : Ex c g s r (fun k => ∃ row, fnd s.H r = some row ∧ row.nil = false ∧ (g r).1 = k) w.drew := by
    refine ⟨fun k row hk h1 h2 h3 => ?_, fun k hk _ h3 => ?_, fun row h1 h2 => ⟨row, h1, h2, rfl⟩⟩
    · obtain ⟨row2, h4, h5, h6⟩ := h3
      exact hk (hs'.inj k r row row2 h1 h2 h4 h5 h6.symm)
    obtain ⟨row2, h4, h5, h6⟩ := h3; exact hk.2 r row2 h4 h5 h6
  have zk : ∀ k, (∃ row, fnd s.H r = some row ∧ row.nil = false ∧ (g r).1 = k) → k < w.drew.heap.size := by
    rintro k ⟨row, h1, h2, rfl⟩; obtain ⟨arr, h3, _⟩ := hs'.obj r row h1 h2; exact (Array.getElem?_eq_some_iff.1 h3).1
  have := q08 _ _ _ _ (ba (P := c.P) (Q := QQ c Q) (T := BX _ w.drew.heap.size w.drew) (need := need) (md := .any) yg order (Array.replicate l.length false) a w.drew (by
    intro j oj _ hl; rw [Array.getD_eq_getD_getElem?, Array.getElem?_replicate] at hl
    split at hl <;> simp at hl) x6 (h _ g a _ hs' hex zk))
  rw [zI] at this
  simpa using this
theorem AE1.rx (hi : L[i]? = some o) (hg : o.guard = none) (hd : dok s o = true) (hp : noP Q) (h : RX c o s r v) (hN : AE1 c L.toArray Q need r l (s.put o.dst v)) : AE1 c L.toArray Q need r ((i, true) :: l) s := fun e g a w hs he hl => by
  obtain ⟨x, h1, h2⟩ := h e g a w hs he; exact ⟨o, x, by simpa using hi, .inl ⟨by simp [Region.wanted, hg], h2⟩, BX.refl _, yu hp _ _, hN e g _ w (hs.put o.dst (zJ hd) h1) he.put hl⟩
theorem AE1.rp (hi : L[i]? = some o) (hg : o.guard = none) (hd : dok s o = true) (hp : noP Q) (h : RP c o s v) (hN : AE1 c L.toArray Q need r l (s.put o.dst v)) : AE1 c L.toArray Q need r ((i, true) :: l) s := AE1.rx hi hg hd hp h.rx hN
theorem AE1.go (h : AE2 c L.toArray Q need r l s) : AE1 c L.toArray Q need r l s := fun e g a w hs he hl => h w e g a w hs he (BX.refl _) hl
theorem AE2.sm (hi : L[i]? = some o) (hg : o.guard = none) (h : StepG c o s r' (fun s' => s' = s.newObj r' row o.dst v)) (zT : r' ≠ r) (hN : AE2 c L.toArray Q need r l (s.newObj r' row o.dst v)) : AE2 c L.toArray Q need r ((i, false) :: l) s := fun W e g a w hs he hb hl =>
  u6 (by simpa using hi) hg (h g a w hs _ _ fun g' s' a' w' h1 h2 h3 h4 h5 => by
    subst h1; have xz := hb.1
    have hbx : BX e W.heap.size W w' := ⟨le_trans hb.1 h3.size, fun k hk hn => (h3.block k zg).trans (hb.2 k hk hn)⟩
    refine ⟨fun _ => hbx, hN W e g' a' w' h2 (Ex.put (s := { s with H := (r', row) :: s.H }) ⟨fun k row' hk h6 h7 => ?_, fun k hk hkl => ?_, fun row' h6 h7 => ?_⟩) hbx hl⟩
    · simp only [fnd] at h6
      by_cases hkr : r' = k
      · grind
      rw [if_neg (by simpa using hkr)] at h6; rw [h4 k (Ne.symm hkr)]; exact he.obj k row' hk h6 h7
    · intro h8
      have h9 := hl k h8; refine he.quiet k ⟨hk.1, fun r2 row2 h10 h11 h12 => ?_⟩ zg h8
      by_cases hr2 : r2 = r'
      · subst hr2
        -- an old object of that name: it would lie in the new one's place
        have : fnd s.H r2 = none ∨ ∃ x, fnd s.H r2 = some x := by cases fnd s.H r2 <;> simp
        have k58 : e (g r2).1 := by rw [h12]; exact h8
        exact he.obj r2 row2 zT h10 h11 k58
      refine hk.2 r2 row2 ?_ h11 (by rw [h4 r2 hr2]; exact h12)
      have e1 : (S.newObj s r' row o.dst v).H = (r', row) :: s.H := by cases o.dst <;> rfl
      simp only [fnd]; rw [if_neg (by simpa using Ne.symm hr2)]; exact h10
    simp only [fnd] at h6; rw [if_neg (by simpa using zT)] at h6; rw [h4 r (Ne.symm zT)]
    exact he.own row' h6 h7)
theorem AE2.st {X : S} (hi : L[i]? = some o) (hg : o.guard = none) (h : StepX c o s r (fun s' => s' = X)) (hN : AD3 c L.toArray Q need l X) : AE2 c L.toArray Q need r ((i, false) :: l) s := fun W e g a w hs he hb hl =>
  u6 (by simpa using hi) hg (h g a w hs _ _ fun g' s' a' w' h1 h2 h3 => by
    subst h1; have xz := hb.1; refine ⟨fun _ => ⟨le_trans hb.1 h3.1, fun k hk hn => (h3.2 k zg fun row h4 h5 h6 => ?_).trans (hb.2 k hk hn)⟩, hN _ g' a' w' h2⟩; subst h6
    exact hn (he.own row h4 h5))
end
section
variable {c : Cx} {s : S} {o : Oper} {Q : Exit → S → Prop}
theorem q60 {t e : TypeId} {ps : Array (Nat × Operand)} {vs : List (Nat × V)} {zs l : List V} (hu : c.P.underlying t = some (.array len e)) (hie : Inf c.P e esz ebt ez) (hi : Inf c.P t sz bt z) (ho : o.op = .build t ps)
    (hv : ps.toList.map (fun x => (x.1, s.ev x.2)) = vs.map (fun x => (x.1, some x.2))) (hzs : z.cells.toList.map (fun y => V.d (.p y)) = zs) (hf : q78 (fun i => some (i * esz, esz)) zs vs = some l) : RP c o s (.agg l) := fun g a w hs => by
  subst hzs; obtain ⟨h1, h2⟩ := qk1 hs hv
  obtain ⟨arr, h3, h4, h5⟩ := qr9 (w := w) (q := qt c s.H g) (g := g) (place := fun i => some (i * esz, esz)) vs (ps.toList.map fun x => (x.1, a.eval x.2)) _ z.cells l hf h1 h2 zx (qO5 z)
  refine ⟨.agg arr, ?_, fun w' => ?_⟩
  · have := VRep.agg (w := w) (q := qt c s.H g) (g := g) l arr.toList (by simpa using h4) (fun j u y hu hy => h5 j u y hu (by simpa using hy))
    simpa using this
  obtain ⟨i, hi1, hi2, hi3, hi4⟩ := hi.out; obtain ⟨ie, he1, he2, he3, he4⟩ := hie.out
  have hb : c.P.built t (ps.map fun (i, x) => (i, a.eval x)).toList = some arr := by
    simp only [Program.built, hi1, hu, hi4, he1, he2]; rw [← h3]; simp
  simp only [execOp, ho, Sem.run_bind, run_build w' t _ arr hb, Result.andThen_ok]; rfl
theorem jZ {L : List Oper} {need : Nat → Bool} {l : List (Nat × Bool)} {i : Nat} {post : V → List (Nat × Row) → Prop} (hi : L[i]? = some o) (hg : o.guard = none) (h : StepM c o s (fun s' => ∃ v H, post v H ∧ s' = S.put ⟨s.n, s.T, H ++ s.H, s.K⟩ o.dst v)) (hN : ∀ v H, post v H → AD2 c L.toArray Q need l (S.put ⟨s.n, s.T, H ++ s.H, s.K⟩ o.dst v)) : AD2 c L.toArray Q need ((i, false) :: l) s :=
  qZ hi hg fun g a w hs K Q' hK => h g a w hs K Q' fun g' s' a' w' ⟨v, H, h1, e⟩ h3 h4 => hK g' s' a' w' (by subst e; exact hN v H h1) h3 h4
end
theorem qI3 {sz : Nat} : ∀ (rows : List (List D)), (∀ l ∈ rows, l.length = sz) → rows.flatten.length = rows.length * sz
  | [], _ => by simp
  | l :: rows, h => by
    rw [List.flatten_cons, length_append, qI3 rows (fun x hx => h x (by simp [hx])), h l zx, length_cons, succ_mul, Nat.add_comm]
theorem qm3 {sz : Nat} : ∀ (rows : List (List D)) (i j : Nat) (l0 : List D) (u : D), (∀ l ∈ rows, l.length = sz) → rows[i]? = some l0 → l0[j]? = some u → rows.flatten[i * sz + j]? = some u
  | [], i, j, l0, u, _, h, _ => by simp at h
  | l :: rows, 0, j, l0, u, hl, h, hu => by grind
  | l :: rows, i + 1, j, l0, u, hl, h, hu => by
    have zI := hl l zx
    rw [List.flatten_cons, List.getElem?_append_right (by rw [zI, succ_mul]; omega), zI, show (i + 1) * sz + j - sz = i * sz + j by rw [succ_mul]; omega]
    exact qm3 rows i j l0 u (fun x hx => hl x (by simp [hx])) (by simpa using h) hu
theorem qI4 {sz : Nat} : ∀ (rows : List (List D)) (i j : Nat) (l0 : List D) (v : D), (∀ l ∈ rows, l.length = sz) → rows[i]? = some l0 → j < sz → (rows.set i (l0.set j v)).flatten = rows.flatten.set (i * sz + j) v
  | [], i, j, l0, v, _, h, _ => by simp at h
  | l :: rows, 0, j, l0, v, hl, h, hj => by grind
  | l :: rows, i + 1, j, l0, v, hl, h, hj => by
    have zI := hl l zx
    rw [set_cons_succ, List.flatten_cons, List.flatten_cons, List.set_append_right _ _ (by rw [zI, succ_mul]; omega), zI, show (i + 1) * sz + j - sz = i * sz + j by rw [succ_mul]; omega]
    rw [qI4 rows i j l0 v (fun x hx => hl x (by simp [hx])) (by simpa using h) hj]
section
variable {β : Type} {F : Fam β} {c : Cx} {s : S} {o : Oper} {Q : Exit → S → Prop}
theorem Fam.cells_same : ∀ (L : List β) (k p : Nat) (x x' : β), L[p]? = some x → F.pre x' = F.pre x → (F.it x').length = (F.it x).length → F.cells k (L.set p x') = F.cells k L
  | [], k, p, x, x', h, _, _ => by simp at h
  | y :: L, k, 0, x, x', h, hp, hi => by
    simp at h; subst h
    have e : (F.it x').isEmpty = (F.it y).isEmpty := by
      cases h1 : F.it x' <;> cases h2 : F.it y <;> simp_all
    simp only [set_cons_zero, Fam.cells, hp, Fam.ownV, hi, e]
  | y :: L, k, p + 1, x, x', h, hp, hi => by
    simp only [set_cons_succ, Fam.cells]; rw [Fam.cells_same L (k + 1) p x x' (by simpa using h) hp hi]
theorem qD3 {L : List β} {x0 : β} (hH : s.H = lits ++ F.objs base L) (vW : lits.all (fun x => decide (x.1 < base)) = true) (hp : L[p]? = some x0) : fnd s.H (base + p) = some (F.row x0) := by
  rw [hH, vR, bQ vW zg, Fam.objs_get, hp]; rfl
theorem xx {t : TypeId} {d : TypeDesc} {x : Operand} {k i j : Nat} {L : List β} {x0 : β} {l0 : List D} {v : D} (hu : c.P.underlying t = some d) (hd : wD d = false) (ho : o.op = .load t x) (hx : s.ev x = some (.ref (base + p) k)) (hH : s.H = lits ++ F.objs base L) (vW : lits.all (fun x => decide (x.1 < base)) = true)
    (hp : L[p]? = some x0) (hk : k = i * F.sz + j) (hl : (F.it x0)[i]? = some l0) (vi : ∀ x, ∀ l ∈ F.it x, l.length = F.sz) (hv : l0[j]? = some v) : RD c o s (.d v) := by
  have zT : (F.it x0).isEmpty = false := by grind
  refine xO hu hd ho hx (qD3 hH vW hp) zT ?_; simp only [Fam.row, hk, List.getElem?_map, qm3 (F.it x0) i j l0 v (vi x0) hl hv, map_some]
theorem bh {t : TypeId} {x y : Operand} {rb k i j : Nat} {row : Row} {L : List β} {x0 : β} (x' : β) {l0 : List D} {v : D} (hi : Inf c.P t 1 bt z) (ho : o.op = .store t x y) (hd : o.dst = none) (hx : s.ev x = some (.ref (base + p) k)) (hy : s.ev y = some (.d v)) (hH : s.H = lits ++ F.objs base L) (vW : lits.all (fun x => decide (x.1 < base)) = true)
    (hr : fnd lits rb = some row) (hc : row.cells = F.cells base L) (hp : L[p]? = some x0) (hk : k = i * F.sz + j) (hl : (F.it x0)[i]? = some l0) (hj : j < F.sz) (vi : ∀ x, ∀ l ∈ F.it x, l.length = F.sz) (uW : (V.d v).one = true) (wK : F.pre x' = F.pre x0) (hit : F.it x' = (F.it x0).set i (l0.set j v)) :
    vm c o s (fun s' => s' = ⟨s.n, s.T, (rb, { row with cells := F.cells base (L.set p x') }) :: lits ++ F.objs base (L.set p x'), s.K⟩) := by
  have vr : i < (F.it x0).length := (List.getElem?_eq_some_iff.1 hl).1; have zT : (F.it x0).isEmpty = false := by grind
  have wl : p < L.length := (List.getElem?_eq_some_iff.1 hp).1; have zI : (F.it x').length = (F.it x0).length := by rw [hit]; simp
  have k59 : (F.it x').isEmpty = false := by grind
  have jX4 : (F.row x').cells = (F.row x0).cells.set k (.d v) := by
    simp only [Fam.row, hit, qI4 (F.it x0) i j l0 v (vi x0) hl hj, hk, map_set]
  have hk2 : k < (F.row x0).cells.length := by
    simp only [Fam.row, length_map, qI3 (F.it x0) (vi x0), hk]; have : i * F.sz + F.sz ≤ (F.it x0).length * F.sz := by rw [← succ_mul]; exact Nat.mul_le_mul_right _ vr
    omega
  have key := vA (l := (F.row x').cells) hi ho hd hx hy (qD3 hH vW hp) (row := F.row x0) zT uW hk2 (by rw [jX4]); have q46 := Fam.cells_same (F := F) L base p x0 x' hp wK zI; have hrb : rb < base := by have := List.all_eq_true.1 vW _ (vo hr); simpa using this
  intro g a w hs K Q' hK; refine key g a w hs K Q' fun g' s' a' w' hs' bG => ?_; subst hs'
  refine hK g' _ a' w' rfl (bG.less ⟨rfl, fun i v h => ⟨v, h, .refl _⟩, fun r row' vS => ?_, fun j v h => ⟨v, h, .refl _⟩⟩)
  have vS : fnd ((rb, { row with cells := F.cells base (L.set p x') }) :: (lits ++ F.objs base (L.set p x'))) r = some row' := vS
  show ∃ row2, fnd ((base + p, { F.row x0 with cells := (F.row x').cells }) :: s.H) r = some row2 ∧ _
  rw [fnd] at vS
  by_cases e : rb = r
  · subst e
    rw [if_pos zx] at vS; have vS := Option.some.inj vS; subst vS; refine ⟨row, ?_, rfl, rfl, rfl, fun j v hv => ⟨v, ?_, .refl _⟩⟩
    · rw [fnd, if_neg (by simp; omega), hH, vR, hr]
    rw [hc, ← q46]; exact hv
  rw [if_neg (by simpa using e), vR] at vS
  cases hl2 : fnd lits r with
  | some row2 =>
    rw [hl2] at vS; have vS := Option.some.inj vS; subst vS; have : r < base := by have := List.all_eq_true.1 vW _ (vo hl2); simpa using this
    exact ⟨row2, by rw [fnd, if_neg (by simp; omega), hH, vR, hl2], rfl, rfl, rfl, fun j v hv => ⟨v, hv, .refl _⟩⟩
  | none =>
    rw [hl2] at vS; obtain ⟨q, y, rfl, hy', rfl⟩ := Fam.objs_inv vS
    by_cases eq : q = p
    · subst eq
      rw [List.getElem?_set_self wl] at hy'; have hy' := Option.some.inj hy'; subst hy'
      refine ⟨{ F.row x0 with cells := (F.row x').cells }, by rw [fnd, if_pos zx], rfl, ?_, rfl, fun j v hv => ⟨v, hv, .refl _⟩⟩
      show (F.it x').isEmpty = (F.it x0).isEmpty
      rw [zT, k59]
    rw [List.getElem?_set_ne (Ne.symm eq)] at hy'
    refine ⟨F.row y, ?_, rfl, rfl, rfl, fun j v hv => ⟨v, hv, .refl _⟩⟩
    rw [fnd, if_neg (by simp; omega), hH, vR, bQ vW zg, Fam.objs_get, hy']; rfl
theorem j50 {g : Nat → Nat × Nat} {a : Act} {w : World} {L : List β} {m szr btr : Nat} {f : Bool} (hs : Sim c g s a w) (hH : s.H = lits ++ F.objs base L) (vW : lits.all (fun x => decide (x.1 < base)) = true) (hr : fnd lits rb = some row) (hf : row.nil = f) (hc : row.cells = F.cells base L)
    (hm : ∀ x, (F.pre x).length = m) (xz : m + 1 = szr) (hbt : L.length * btr ≤ 140737488355328) (vi : ∀ x, ∀ l ∈ F.it x, l.length = F.sz) (hit : ∀ x ∈ L, (F.it x).length * F.bt ≤ 140737488355328) {x : Value} (hx : VRep w (qt c s.H g) g (.own rb szr L.length f) x) : VRep w (fun b => ¬ c.out b) g (.d (.sl szr btr (L.map F.data))) x := by
  subst xz; have hrb : fnd s.H rb = some row := by rw [hH, vR, hr]
  have hob : ∀ r row, fnd s.H r = some row → row.nil = false → ¬ c.out (g r).1 := fun r row hr hn h => by
    have h1 := hs.low _ h; have h2 := hs.base r row hr hn; omega
  refine .d _ _ ?_; generalize hLn : L.length = n at hx
  cases hx with
  | own _ _ _ hle vK =>
    obtain ⟨arr, h1, _, h2⟩ := hs.obj rb row hrb hf
    have ux : ∀ (i j : Nat) (y : β) (u : D), L[i]? = some y → (F.data y)[j]? = some u → ∃ z, arr[i * (m + 1) + j]? = some z ∧ DRep w (fun b => ¬ c.out b) u z := by
      intro i j y u hi hj; unfold Fam.data at hj
      by_cases hjm : j < m
      · rw [List.getElem?_append_left (by rw [hm]; exact hjm)] at hj
        obtain ⟨z, h3, h4⟩ := h2 _ (.d u) (by rw [hc]; exact Fam.cells_pre hm L base i j y u hi hj); refine ⟨z, h3, ?_⟩
        cases h4 with
        | d _ _ h5 => exact h5.mono Cells.rfl (fun b hb _ => hb.1)
      rw [List.getElem?_append_right (by rw [hm]; omega), hm] at hj
      cases hjj : j - m with
      | succ q => rw [hjj] at hj; simp at hj
      | zero =>
        rw [hjj] at hj; simp at hj; subst hj; obtain rfl : j = m := by omega
        obtain ⟨z, h3, h4⟩ := h2 _ _ (by rw [hc]; exact Fam.cells_own hm L base i y hi); refine ⟨z, h3, ?_⟩
        have := Ro.rep hs (Ro.own (base + i) F.sz (F.it y).length F.bt (F.it y).isEmpty (F.row y) (F.it y) (qD3 hH vW hi) rfl rfl (hit y (mem_of_getElem? hi)) (fun i' j' l u h5 h6 => by
          simp only [Fam.row, List.getElem?_map, qm3 (F.it y) i' j' l u (vi y) h5 h6, map_some])) h4
        cases this with
        | d _ _ h5 => exact h5
    have qS8 : ∀ (i j : Nat) (row' : List D) (u : D), (L.map F.data)[i]? = some row' → row'[j]? = some u → ∃ z, arr[i * (m + 1) + j]? = some z ∧ DRep w (fun b => ¬ c.out b) u z := by grind
    have hln : (L.map F.data).length = n := by rw [length_map, hLn]
    rw [← hln]; refine .sl (m + 1) btr (L.map F.data) _ _ (g rb).1 0 (fun i j => arr.getD (i * (m + 1) + j) undef) zg (fun _ => ⟨rfl, hob rb row hrb hf, (Array.getElem?_eq_some_iff.1 h1).1⟩) (by rw [hln, ← hLn]; exact hbt) ?_ ?_
    · intro i j l u hi hj
      obtain ⟨z, h3, _⟩ := qS8 i j l u hi hj; rw [zero_add, cell_of_row w _ _ _ _ _ h1, h3]; simp [Array.getD_eq_getD_getElem?, h3]
    intro i j l u hi hj; obtain ⟨z, h3, h4⟩ := qS8 i j l u hi hj
    simpa [Array.getD_eq_getD_getElem?, h3] using h4
  | ownNil =>
    have : L = [] := by simpa using hLn
    subst this
    exact .sl (m + 1) btr [] none 0 0 0 (fun _ _ => undef) (le_refl 0) (fun h => absurd rfl h) zx zx zx
theorem jt5 {fx : Operand} {xs : Array Operand} {ts : Array TypeId} {code : Code} {n : Nat} {rs : List ResultVar} {l : List V} {ty : TypeId} {e : Int} (xY : FnO c.P f args (fun v H => v = .tup [.own R 1 len false, .i e] ∧ H = [(R, ⟨ty, l, false, 1⟩)])) (wl : ∀ v ∈ l, ∃ y, v = .d (.p y)) (hf : Is c.P f fn code n rs) (ho : o.op = .call { callee := .value fx, args := xs, argTypes := ts })
    (wc : s.ev fx = some (.fn f [])) (hro : ∀ g a w, Sim c g s a w → y9 w (fun b => ¬ c.out b) g args (xs.toList.map a.eval)) (hd : dok s o = true) (xM : s.clean R = true) : StepM c o s (fun s' => s' = S.put ⟨s.n, s.T, (R, ⟨ty, l, false, 1⟩) :: s.H, s.K⟩ o.dst (.tup [.own R 1 len false, .i e])) := by
  intro g a w hs K Q hK
  have uY : a.eval fx = .func (.func f) #[] ([] : List Value).toArray := by
    have h := hs.ev wc; generalize a.eval fx = u at h
    cases h with
    | fn _ _ cs hl _ =>
      obtain rfl : cs = [] := by cases cs with | nil => rfl | cons => simp at hl
      rfl
  unfold Oper.wp; rw [wj (caps := []) hf ho uY]; simp only [Oper.upon, append_nil]; refine (xY w c.out g _ (fun b h => lt_of_lt_of_le (hs.low b h) hs.below.size) (hro g a w hs)).mono ?_; rintro e' w' ⟨v, x, g', H, rfl, ⟨rfl, rfl⟩, _, hO, h3, h4⟩; obtain ⟨arr, o1, o2, o3⟩ := hO.obj R ⟨ty, l, false, 1⟩ (by simp [fnd]) rfl
  have vY : w.heap.size ≤ (g' R).1 := hO.new R ⟨ty, l, false, 1⟩ (by simp [fnd]) rfl
  have hw : Cells w w' (qt c s.H g) := ⟨h4.size, fun b o u _ h1 h2 => (h4.cell (p := ⟨b, o, none⟩) h1).trans h2, Below.maps h4⟩
  have q68 : ∀ {b o}, w.heap[b]? = some o → b < w.heap.size := fun h => (Array.getElem?_eq_some_iff.1 h).1; have hfo : ∀ k row', fnd ((R, (⟨ty, l, false, 1⟩ : Row)) :: s.H) k = some row' → k = R ∧ row' = ⟨ty, l, false, 1⟩ ∨ k ≠ R ∧ fnd s.H k = some row' := by grind [fnd, Option.some.inj]
  have hq : ∀ b, qt c s.H g b → b < w.heap.size → qt c ((R, (⟨ty, l, false, 1⟩ : Row)) :: s.H) (fun k => if k = R then g' R else g k) b := by
    intro b hb zk; refine ⟨hb.1, fun k row' hk hn => ?_⟩
    rcases hfo k row' hk with ⟨rfl, _⟩ | ⟨e, h1⟩
    · simp only [if_true]; omega
    simp only [if_neg e]; exact hb.2 k row' h1 hn
  have hm : ∀ v x, v.has R = false → VRep w (qt c s.H g) g v x → VRep w' (qt c ((R, (⟨ty, l, false, 1⟩ : Row)) :: s.H) (fun k => if k = R then g' R else g k)) (fun k => if k = R then g' R else g k) v x := by
    intro v x hv hx; refine hx.mono hw hq fun k hk => ?_; have e : k ≠ R := by rintro rfl; rw [hv] at hk; cases hk
    simp [e]
  refine hK (fun k => if k = R then g' R else g k) _ _ _ rfl (Sim.put (s := ⟨s.n, s.T, (R, ⟨ty, l, false, 1⟩) :: s.H, s.K⟩) ⟨hs.size, hs.defers, ?_, ?_, ?_, ?_, ?_, ?_, hs.low, hs.below.trans (h4.mono hs.below.size)⟩ o.dst (zJ hd) ?_) h4
  · intro i v hv
    obtain ⟨y, h1, h2⟩ := hs.tmp i v hv; exact ⟨y, h1, hm v y (S.clean_tmp xM hv) h2⟩
  · intro k row' hk hn
    rcases hfo k row' hk with ⟨_, rfl⟩ | ⟨_, h1⟩
    · cases hn
    exact hs.nul k row' h1 hn
  · intro k row' hk hn
    rcases hfo k row' hk with ⟨rfl, rfl⟩ | ⟨e, h1⟩
    · refine ⟨arr, by simpa using o1, by simpa using o2, fun j v hv => ?_⟩
      obtain ⟨y, h5, h6⟩ := o3 j v hv; obtain ⟨z, rfl⟩ := wl v (mem_of_getElem? hv); rw [VRep.p_eq h6] at h5; exact ⟨z, h5, .d _ _ (.p _)⟩
    obtain ⟨arr', h5, h6, h7⟩ := hs.obj k row' h1 hn; refine ⟨arr', by simp only [if_neg e]; exact (h4.block _ (q68 h5)).trans h5, by simpa only [if_neg e] using h6, fun j v hv => ?_⟩; obtain ⟨y, h8, h9⟩ := h7 j v hv
    exact ⟨y, h8, hm v y (V.hasL_false.1 (by
      have := (S.clean_obj xM h1).2
      rw [V.hasL_false]; exact this) v (mem_of_getElem? hv)) h9⟩
  · intro j v y h1 h2
    exact hm v y (S.clean_keep xM h1) (hs.keep j v y h1 h2)
  · intro k k' row1 row2 h1 n1 h2 n2 h5
    rcases hfo k row1 h1 with ⟨e1, _⟩ | ⟨e1, m1⟩ <;> rcases hfo k' row2 h2 with ⟨e2, _⟩ | ⟨e2, m2⟩
    · rw [e1, e2]
    · simp only [if_pos e1, if_neg e2] at h5
      obtain ⟨arr', h6, _⟩ := hs.obj k' row2 m2 n2; have := q68 h6; omega
    · simp only [if_pos e2, if_neg e1] at h5
      obtain ⟨arr', h6, _⟩ := hs.obj k row1 m1 n1; have := q68 h6; omega
    simp only [if_neg e1, if_neg e2] at h5; exact hs.inj k k' _ _ m1 n1 m2 n2 h5
  · intro k row' h1 n1
    rcases hfo k row' h1 with ⟨rfl, _⟩ | ⟨e1, h1⟩
    · simp only [if_true]; exact le_trans hs.below.size vY
    simp only [if_neg e1]; exact hs.base k row' h1 n1
  cases h3 with
  | tup _ cs hl hh =>
    refine .tup _ cs hl fun j u z hu hz => ?_
    match j, hu with
    | 0, hu =>
      simp only [List.getElem?_cons_zero, Option.some.injEq] at hu; subst hu; have h5 := hh 0 (.own R 1 len false) z rfl hz
      have hG : (if R = R then g' R else g R) = g' R := by simp
      cases h5 with
      | own _ _ _ h6 h7 =>
        have := VRep.own (w := w') (q := qt c ((R, (⟨ty, l, false, 1⟩ : Row)) :: s.H) (fun k => if k = R then g' R else g k)) (g := fun k => if k = R then g' R else g k) R 1 len (by simpa using h6) (by simpa using h7)
        simpa using this
    | 1, hu =>
      simp only [List.getElem?_cons_succ, List.getElem?_cons_zero, Option.some.injEq] at hu; subst hu; rw [VRep.p_eq (hh 1 (.i e) z rfl hz)]; exact .d _ _ (.p _)
    | j + 2, hu => simp at hu
theorem qS9 {k : Nat} : ∀ (L : List β) (base : Nat), V.hasL k (F.cells base L) = true → ∃ p, p < L.length ∧ k = base + p
  | [], base, h => by simp [Fam.cells, V.hasL] at h
  | x :: L, base, h => by
    simp only [Fam.cells, zA, q83, Bool.false_or, V.hasL, Fam.ownV, V.has, Bool.or_eq_true, beq_iff_eq] at h
    rcases h with h | h
    · exact ⟨0, by simp, by omega⟩
    obtain ⟨p, h1, h2⟩ := qS9 L (base + 1) h; exact ⟨p + 1, by simp; omega, by omega⟩
theorem jd0 {L : List β} (hc : row.cells = F.cells base L) : ∀ r row' k, fnd ((rb, row) :: F.objs base L) r = some row' → V.hasL k row'.cells = true → ∃ row'', (k, row'') ∈ (rb, row) :: F.objs base L := by
  intro r row' k hr hk; rw [fnd] at hr
  split at hr
  · cases hr
    rw [hc] at hk; obtain ⟨p, h1, rfl⟩ := qS9 L base hk; have := Fam.objs_get (F := F) L base p; rw [List.getElem?_eq_getElem h1] at this; exact ⟨_, mem_cons_of_mem _ (vo this)⟩
  grind [Fam.objs_inv, Fam.row_hasL]
theorem j51 : ∀ (L : List β) (base : Nat) (x : Nat × Row), x ∈ F.objs base L → base ≤ x.1
  | [], base, x, h => by simp [Fam.objs] at h
  | y :: L, base, x, h => by
    simp only [Fam.objs, mem_cons] at h
    rcases h with rfl | h
    · exact le_refl _
    have := j51 L (base + 1) x h; omega
theorem qT0 {b : Nat} (hT : s.T.all (fun x => x.2.low b) = true) (hH : s.H.all (fun x => decide (x.1 < b) && V.lowL b x.2.cells) = true) (hK : V.lowL b s.K = true) {r : Nat} (hr : b ≤ r) : s.clean r = true := by
  simp only [S.clean, and_eq_true, all_eq_true, Bool.not_eq_true']; refine ⟨⟨fun x hx => V.low_has hr _ (List.all_eq_true.1 hT x hx), fun x hx => ?_⟩, V.lowL_has hr _ hK⟩; have := List.all_eq_true.1 hH x hx; simp only [and_eq_true, decide_eq_true_eq] at this; exact ⟨by simp; omega, V.lowL_has hr _ this.2⟩
theorem ji8 {b : Nat} {L : List β} (hT : s.T.all (fun x => x.2.low b) = true) (hH : s.H.all (fun x => decide (x.1 < b) && V.lowL b x.2.cells) = true) (hK : V.lowL b s.K = true) (h1 : b ≤ rb) (h2 : b ≤ base) : ((rb, row) :: F.objs base L).all (fun x => s.clean x.1) = true := by
  rw [all_eq_true]; intro x hx
  rcases List.mem_cons.1 hx with rfl | hx
  · exact qT0 hT hH hK h1
  grind [qT0, le_trans, j51]
theorem Less.rot {F : Fam β} {n : Nat} {T : List (Nat × V)} {x : Nat × Row} {L : List β} (vW : H.all (fun x => decide (x.1 < base)) = true) : Less ⟨n, T, x :: (H ++ F.objs base L), K⟩ ⟨n, T, x :: (F.objs base L ++ H), K⟩ := by
  refine ⟨rfl, fun i v h => ⟨v, h, .refl _⟩, fun r row h => ?_, fun j v h => ⟨v, h, .refl _⟩⟩
  refine ⟨row, ?_, rfl, rfl, rfl, fun j v hv => ⟨v, hv, .refl _⟩⟩
  have h : fnd (x :: (H ++ F.objs base L)) r = some row := h
  show fnd (x :: (F.objs base L ++ H)) r = some row
  rw [fnd] at h ⊢
  split at h
  · rename_i e; rw [if_pos e]; exact h
  rename_i e
  rw [if_neg e]; rw [vR] at h ⊢
  cases hl : fnd H r with
  | some row2 =>
    rw [hl] at h; have zk : r < base := by have := List.all_eq_true.1 vW _ (vo hl); simpa using this
    cases ho : fnd (F.objs base L) r with
    | some row3 => obtain ⟨p, y, rfl, _, _⟩ := Fam.objs_inv ho; omega
    | none => exact h
  | none =>
    rw [hl] at h; have h : fnd (F.objs base L) r = some row := h; rw [h]
theorem jf {code : Code} {Q : Exit → S → Prop} (lits : List (Nat × Row)) (rb : Nat) {L : List β} (hH : s.H = lits ++ F.objs base L) (hr : fnd lits rb = some row) (hn : row.nil = decide (L.length = 0)) (hc : row.cells = F.cells base L) (hm : ∀ x, (F.pre x).length = m) (vi : ∀ x, ∀ l ∈ F.it x, l.length = F.sz) (hbt : ∀ x ∈ L, (F.it x).length * F.bt ≤ 140737488355328) (vW : lits.all (fun x => decide (x.1 < base)) = true)
    (hlo : ∀ x ∈ lits, x.1 ≠ rb → ∀ r, base ≤ r → V.hasL r x.2.cells = false) (hT : s.T.all (fun x => x.2.low base) = true) (hK : V.lowL base s.K = true)
    (h : AW c code Q ⟨s.n, s.T, (rb, { row with cells := L.flatMap fun x => (F.data x).map V.d }) :: lits, s.K⟩) : AW c code Q s := by
  by_cases h0 : L = []
  · subst h0
    refine AW.less (s' := ⟨s.n, s.T, (rb, { row with cells := [] }) :: lits, s.K⟩) ⟨rfl, fun i v h => ⟨v, h, .refl _⟩, fun r row' h => ?_, fun j v h => ⟨v, h, .refl _⟩⟩ h
    have h : fnd ((rb, { row with cells := ([] : List V) }) :: lits) r = some row' := h
    refine ⟨row', ?_, rfl, rfl, rfl, fun j v hv => ⟨v, hv, .refl _⟩⟩
    have e0 : row = { row with cells := ([] : List V) } := by
      cases row
      simp only at hc; rw [hc]; rfl
    rw [hH, vR]; rw [fnd] at h
    by_cases e : rb = r
    · grind
    rw [if_neg (by simpa using e)] at h; rw [h]
  exact j5 lits rb hH hr (by rw [hn]; simp [h0]) hc hm vi hbt vW hlo hT hK h
end
theorem xH {β : Type} {F : Fam β} {c : Cx} {s : S} {o : Oper} {t : TypeId} {d : TypeDesc} {x : Operand} {k : Nat} {L : List β} {x0 : β} (hu : c.P.underlying t = some d) (hd : wD d = false) (ho : o.op = .load t x) (hx : s.ev x = some (.ref rb k)) (hr : fnd s.H rb = some row) (hn : row.nil = false) (hc : row.cells = F.cells base L) (hm : ∀ x, (F.pre x).length = m) (hk : k = p * (m + 1) + m) (hp : L[p]? = some x0) (he : F.ownV (base + p) x0 = v) : RD c o s v := by
  subst he; exact qq8 hu hd ho hx hr hn hc hm hk hp
section
variable {c : Cx} {s : S} {o : Oper} {Q : Exit → S → Prop} {L : List Oper} {need : Nat → Bool} {l : List (Nat × Bool)} {i r : Nat}
def ka0 (c : Cx) (o : Oper) (s : S) (r : Nat) (row' : Row) : Prop := ∀ g a w, Sim c g s a w → ∀ (K : Act → World → Prop) (Q : Exit → Act → World → Prop),
  (∀ a' w', Sim c g { s with H := (r, row') :: s.H } a' w' → (w'.heap.size = w.heap.size ∧ ∀ k, k ≠ (g r).1 → w'.heap[k]? = w.heap[k]?) → K a' w') → o.wp c.P a w K Q
def und (ops : Array Oper) (s : S) (j : Nat) : Prop := ∃ d, (ops[j]?).bind (·.dst) = some d ∧ fnd s.T d = some (.d (.p undef))
theorem qT1 {ops : Array Oper} {j : Nat} {g : Nat → Nat × Nat} {a : Act} {w : World} (h : und ops s j) (hs : Sim c g s a w) : yielded ops a.tmps j = none := by
  obtain ⟨d, h1, h2⟩ := h; obtain ⟨x, h3, h4⟩ := hs.tmp d _ h2; have := VRep.p_eq h4; subst this; simp [yielded, h1, h3, undef]
theorem jS {ops : Array Oper} {j : Nat} (hg : o.guard = some (j, b)) (hy : yld ops s j = some b') (hb : (b' == b) = false) (hd : dok s o = true) (h : AL c ops rest Q (s.put o.dst (.d (.p undef)))) : AL c ops (o :: rest) Q s := fun g a w hs =>
  wpList_step fun K hK => by
    have hw : ¬ Region.wanted o (yielded ops a.tmps) = true := by
      simp only [Region.wanted, hg, yn hy hs]
      simpa using hb
    rw [if_neg hw]; exact hK _ _ (h g _ w (hs.put o.dst (zJ hd) (.d _ _ (.p _))))
theorem j0 {ops : Array Oper} {j : Nat} (hg : o.guard = some (j, b)) (hy : und ops s j) (hd : dok s o = true) (h : AL c ops rest Q (s.put o.dst (.d (.p undef)))) : AL c ops (o :: rest) Q s := fun g a w hs =>
  wpList_step fun K hK => by
    have hw : ¬ Region.wanted o (yielded ops a.tmps) = true := by
      simp only [Region.wanted, hg, qT1 hy hs]; simp
    rw [if_neg hw]; exact hK _ _ (h g _ w (hs.put o.dst (zJ hd) (.d _ _ (.p _))))
theorem jT {j : Nat} (hi : L[i]? = some o) (hg : o.guard = some (j, b)) (hy : yld L.toArray s j = some b') (hb : (b' == b) = false) (hd : dok s o = true) (hp : noP Q) (hN : AD1 c L.toArray Q need l (s.put o.dst (.d (.p undef)))) : AD1 c L.toArray Q need ((i, true) :: l) s := fun g a w hs =>
  ⟨o, undef, by simpa using hi, .inr ⟨by simp only [Region.wanted, hg, yn hy hs]; simpa using hb, rfl⟩, Below.refl _ _, yu hp _ _, hN g _ w (hs.put o.dst (zJ hd) (.d _ _ (.p _)))⟩
theorem qM5 {P : Program} {t e : TypeId} (hu : P.underlying t = some (.pointer e)) (a : Option Addr) (w : World) : (Op.equal t (.pointer a) (.pointer none)).run P w = .ok a.isNone w := by
  have h : ∀ d : Nat, (Op.equalIn (d + 1) t (.pointer a) (.pointer none)).run P w = .ok a.isNone w := fun d => by
    cases a <;> simp [Op.equalIn, run_underlying hu]
  exact h 9999
theorem ji9 {t t' e : TypeId} {op : BinOp} {x y : Operand} (hop : op = .eql ∨ op = .neq) (hu : c.P.underlying t = some (.pointer e)) (ho : o.op = .binOp op t x y t') (hx : s.ev x = some v) (hy : s.ev y = some (.d (.p (.pointer none)))) (hv : ∀ w q g z, VRep w q g v z → ∃ a, z = .pointer a ∧ a.isNone = b) : RP c o s (.b (if op = .eql then b else !b)) := fun g a w hs => by
  obtain ⟨p, hp1, hp2⟩ := hv _ _ _ _ (hs.ev hx)
  refine ⟨.bool (if op = .eql then b else !b), .d _ _ (.p _), fun w' => ?_⟩
  have h := qM5 hu p w'
  rcases hop with rfl | rfl <;> simp [execOp, ho, hp1, VRep.p_eq (hs.ev hy), eqGuard, binOp, h, hp2]
end
theorem j52 (m : zr) (hs : m.states.length ≤ 1000000) (ha : xp m.states ≤ 1000000000) : Fn prog 56 [mV m] (fun v => (60 < m.states.length ∨ 400 < xp m.states) ∧ v = .tup [.agg [.i 0, .nil], .i 5] ∨ ¬ (60 < m.states.length ∨ 400 < xp m.states) ∧ v = .tup [mV m, .i 0]) := by
 obtain ⟨st, sts⟩ := m; simp only at hs ha ⊢; obtain ⟨n, hn⟩ : ∃ n, sts.length = n := ⟨_, rfl⟩; rw [hn] at hs ⊢; refine qc 15 fun w0 out => ?_
 by_cases h1 : 60 < n
 ·skip
  refine W58 ?_; refine yW ?_; refine W11 ?_; exact ⟨[_, _], zU1, .inl ⟨.inl h1, rfl⟩, zU0⟩
 by_cases h2 : 400 < xp sts
 ·skip
  refine W58 ?_; refine ve ?_
  (refine qj (post := ?pc254) rfl rfl (zS (args := [_]) ?hc254 ⟨func66, rfl, rfl, rfl, rfl⟩ rfl rfl rfl rfl) ?_; (case hc254 => (exact gr ⟨st, sts⟩ (by simp only [hn]; omega))); rintro _ rfl -; try dsimp only)
  refine zC ?_; refine W11 ?_; exact ⟨[_, _], zU1, .inl ⟨.inr h2, rfl⟩, zU0⟩
 skip; refine W58 ?_; refine ve ?_
 (refine qj (post := ?pc255) rfl rfl (zS (args := [_]) ?hc255 ⟨func66, rfl, rfl, rfl, rfl⟩ rfl rfl rfl rfl) ?_; (case hc255 => (exact gr ⟨st, sts⟩ (by simp only [hn]; omega))); rintro _ rfl -; try dsimp only)
 refine xu ?_; exact ⟨[_, _], zU1, .inr ⟨by omega, rfl⟩, zU0⟩
theorem jd1 {m : zr} (hs : m.states.length ≤ 1000000) (ha : xp m.states ≤ 1000000000) (h : ¬ (60 < m.states.length ∨ 400 < xp m.states)) : Fn prog 56 [mV m] (fun v => v = .tup [mV m, .i 0]) := (j52 m hs ha).mono fun v hv => by
 grind
theorem jd2 {m : zr} (hs : m.states.length ≤ 1000000) (ha : xp m.states ≤ 1000000000) (h : 60 < m.states.length ∨ 400 < xp m.states) : Fn prog 56 [mV m] (fun v => v = .tup [.agg [.i 0, .nil], .i 5]) := (j52 m hs ha).mono fun v hv => by
 grind
section
variable {c : Cx} {s : S} {o : Oper}
def ka1 (c : Cx) (o : Oper) (s : S) (N : S → Prop) : Prop := ∀ g a w, Sim c g s a w → ∀ (K : Act → World → Prop) (Q : Exit → Act → World → Prop),
  (∀ s' a' w', N s' → Sim c g s' a' w' → Below w.heap.size w w' → K a' w') → o.wp c.P a w K Q
def RO (c : Cx) (o : Oper) (s : S) (r : Nat) (v : V) : Prop := ∀ W g a w, Sim c g s a w → Below W.heap.size W w → (g r).1 < W.heap.size → ∃ x, VRep w (qt c s.H g) g v x ∧ ∀ w', Below W.heap.size W w' → (execOp a.eval o).run c.P w' = .ok (.value x) w'
variable {Q : Exit → S → Prop} {L : List Oper} {ops : Array Oper} {need : Nat → Bool} {l : List (Nat × Bool)} {i : Nat} {O : List Nat}
def AO (O : List Nat) (c : Cx) (ops : Array Oper) (Q : Exit → S → Prop) (need : Nat → Bool) (l : List (Nat × Bool)) (s : S) : Prop := ∀ W g a w, Sim c g s a w → Below W.heap.size W w → (∀ r ∈ O, (g r).1 < W.heap.size) → q31 c.P ops (QQ c Q) (Below W.heap.size W) need l a w
theorem jd3 {j : Nat} (hg : o.guard = some (j, b)) (hy : yld L.toArray s j = some b') (hb' : (b' == b) = false) : ∀ g a w, Sim c g s a w → Region.wanted o (yielded L.toArray a.tmps) = false := fun g a w hs => by
  simp only [Region.wanted, hg, yn hy hs]; simpa using hb'
end
section
variable {c : Cx} {s : S} {o : Oper}
variable {Q : Exit → S → Prop} {L : List Oper} {need : Nat → Bool} {l : List (Nat × Bool)} {i r : Nat}
end
section
variable {c : Cx} {s : S} {o : Oper}
end
section
variable {c : Cx} {s : S} {o : Oper}
theorem qT2 {t t' e : TypeId} {x y : Operand} {r k : Nat} (hu : c.P.underlying t = some (.pointer e)) (hii : Inf c.P e sz bt z) (ho : o.op = .binOp .neq t x y t') (hx : s.ev x = some (.ref r k)) (hy : s.ev y = some (.ref r k)) : RP c o s (.b false) := fun g a w hs => by
  obtain ⟨j, hi, _⟩ := hii.out; have h1 := hs.ev hx; have h2 := hs.ev hy; refine ⟨.bool false, .d _ _ (.p _), fun w' => ?_⟩; have h3 : a.eval x = .pointer (some ⟨(g r).1, k, none⟩) := by generalize a.eval x = u at h1; cases h1; rfl
  have h4 : a.eval y = .pointer (some ⟨(g r).1, k, none⟩) := by generalize a.eval y = u at h2; cases h2; rfl
  have h := Lib.run_neq_ptr_same w' (P := c.P) ⟨(g r).1, k, none⟩ hu hi; simp [execOp, ho, h3, h4, eqGuard, h]
theorem j17 {t t' e : TypeId} {x y : Operand} (hu : c.P.underlying t = some (.pointer e)) (ho : o.op = .binOp .eql t x y t') (hx : s.ev x = some (.d (.p (.pointer none)))) (hy : s.ev y = some (.d (.p (.pointer none)))) : RP c o s (.b true) :=
  ji9 (b := true) (.inl rfl) hu ho hx hy fun w q g z hz => by rw [VRep.p_eq hz]; exact ⟨_, rfl, rfl⟩
theorem j18 {t t' e : TypeId} {x y : Operand} {r k : Nat} (hu : c.P.underlying t = some (.pointer e)) (ho : o.op = .binOp .eql t x y t') (hx : s.ev x = some (.ref r k)) (hy : s.ev y = some (.d (.p (.pointer none)))) : RP c o s (.b false) :=
  ji9 (b := false) (.inl rfl) hu ho hx hy fun w q g z hz => by cases hz; exact ⟨_, rfl, rfl⟩
end
section
variable {P : Program} {ops : Array Oper} {Q : Exit → Act → World → Prop} {md : Region.Mode} {T : World → Prop} {need : Nat → Bool}
def jC0 (P : Program) (ops : Array Oper) (Q : Exit → Act → World → Prop) (T : World → Prop) (need : Nat → Bool) (r1 r2 : List (Nat × Bool)) : List Nat → Act → World → Prop
  | [], a, w => q31 P ops Q T need r1 a w ∧ q31 P ops Q T need r2 a w
  | i :: r, a, w => ∃ oi x, ops[i]? = some oi ∧ YieldsIf P ops T oi x a ∧ T w ∧ (∀ c a w, Q (.panic c) (a.put oi.dst x) w → Q (.panic c) a w) ∧ jC0 P ops Q T need r1 r2 r (a.put oi.dst x) w
end
section
variable {c : Cx} {s : S} {Q : Exit → S → Prop} {ops : Array Oper} {L : List Oper} {need : Nat → Bool} {r1 r2 : List (Nat × Bool)} {l : List Nat} {i : Nat} {o : Oper}
def ddL {α : Type} : List Nat → List (Nat × α) → List (Nat × α)
  | _, [] => []
  | seen, (k, v) :: l => if seen.contains k then ddL seen l else (k, v) :: ddL (k :: seen) l
theorem qp5 {α : Type} : ∀ (l : List (Nat × α)) (seen : List Nat) (i : Nat) (v : α), fnd (ddL seen l) i = some v → i ∉ seen ∧ fnd l i = some v
  | [], seen, i, v, h => by simp [ddL, fnd] at h
  | (k, u) :: l, seen, i, v, h => by
    simp only [ddL] at h
    split at h
    · rename_i hk
      obtain ⟨h1, h2⟩ := qp5 l seen i v h; refine ⟨h1, ?_⟩; have : k ≠ i := by rintro rfl; exact h1 (by simpa using hk)
      simpa [fnd, this] using h2
    rename_i hk
    simp only [fnd] at h ⊢
    split at h
    · grind
    rename_i e
    obtain ⟨h1, h2⟩ := qp5 l (k :: seen) i v h; rw [if_neg e]
    exact ⟨fun hm => h1 (mem_cons_of_mem _ hm), h2⟩
def S.dd (s : S) : S := ⟨s.n, ddL [] s.T, ddL [] s.H, s.K⟩
theorem qW (s : S) : Less s.dd s := ⟨rfl, fun i v h => ⟨v, (qp5 _ _ _ _ h).2, .refl _⟩, fun r row h => ⟨row, (qp5 _ _ _ _ h).2, rfl, rfl, rfl, fun j v hv => ⟨v, hv, .refl _⟩⟩, fun j v h => ⟨v, h, .refl _⟩⟩
theorem jg (s : S) : Less s s := ⟨rfl, fun i v h => ⟨v, h, .refl _⟩, fun r row h => ⟨row, h, rfl, rfl, rfl, fun j v hv => ⟨v, hv, .refl _⟩⟩, fun j v h => ⟨v, h, .refl _⟩⟩
def QJ (N : S) : Exit → S → Prop
  | .normal, s => Less N s
  | _, _ => False
def AB1 (c : Cx) (ops : Array Oper) (Q : Exit → S → Prop) (need : Nat → Bool) (r1 r2 : List (Nat × Bool)) (l : List Nat) (s : S) : Prop := ∀ g a w, Sim c g s a w → jC0 c.P ops (QQ c Q) (Below w.heap.size w) need r1 r2 l a w
def AQ (r : Nat) (c : Cx) (ops : Array Oper) (Q : Exit → S → Prop) (need : Nat → Bool) (l : List (Nat × Bool)) (s : S) : Prop := ∀ W g a w, Sim c g s a w → Below W.heap.size W w → W.heap.size ≤ (g r).1 → q31 c.P ops (QQ c Q) (Below W.heap.size W) need l a w
variable {l : List (Nat × Bool)} {r : Nat}
theorem jh {j : Nat} (hi : L[i]? = some o) (hg : o.guard = some (j, b)) (hy : yld L.toArray s j = some b') (hb' : (b' == b) = false) (hd : dok s o = true) (hN : AD2 c L.toArray Q need l (s.put o.dst (.d (.p undef)))) : AD2 c L.toArray Q need ((i, false) :: l) s := fun W g a w hs hb => by
  have hw' : ¬ Region.wanted o (yielded L.toArray a.tmps) = true := by rw [jd3 hg hy hb' g a w hs]; simp
  show wpOp c.P L.toArray (QQ c Q) i _ a w
  unfold wpOp; simp only [List.getElem?_toArray, hi]; rw [if_neg hw']
  exact ⟨fun _ => hb, hN W g _ w (hs.put o.dst (zJ hd) (.d _ _ (.p _))) hb⟩
end
theorem j19 {p : Program} {fits : TypeId → Bool} {e : TypeId} {n : Nat} (h : 1 ≤ n) : ∀ d, rowAt p fits d e n 0 1 = rowAt p fits d e 1 0 1
  | 0 => rfl
  | d + 1 => by
    have h1 : 0 < n := h; simp only [rowAt, Nat.zero_div, Nat.zero_mod, zero_add]; simp [h, h1]
theorem qT3 {p : Program} {e u : TypeId} {n : Nat} (h : 1 ≤ n) (hl : rowAt p (fun x => sameLayout p p.depth x u) p.depth e 1 0 1 = true) : liesAt p p.depth e n 0 u 1 = true := by
  cases hd : p.depth with
  | zero => rw [hd] at hl; cases hl
  | succ d =>
    rw [liesAt]
    have h2 := j19 (p := p) (fits := fun x => sameLayout p p.depth x u) (e := e) h p.depth
    rw [h2, hl]; rfl
section
variable {c : Cx} {s : S} {o : Oper}
theorem qI5 {g : Nat → Nat × Nat} {a : Act} {w : World} {r : Nat} (hs : Sim c g s a w) (hr : fnd s.H r = some row) (hn : row.nil = false) : ∃ n, (∀ w', Below w.heap.size w w' → w'.shape? (g r).1 = some (row.ty, n)) ∧ row.cells.length ≤ n := by
  obtain ⟨arr, h1, _, h2⟩ := hs.obj r row hr hn; refine ⟨arr.size, fun w' hb => ?_, ?_⟩
  · have h3 := (hb.block _ (Array.getElem?_eq_some_iff.1 h1).1).trans h1
    simp [World.shape?, h3]
  by_cases h0 : row.cells.length = 0
  · omega
  obtain ⟨y, h4, _⟩ := h2 (row.cells.length - 1) _ (List.getElem?_eq_getElem zg); have := (Array.getElem?_eq_some_iff.1 h4).1; omega
theorem qT4 {t t' e : TypeId} {x : Operand} {r : Nat} (hu : c.P.underlying t = some (.pointer e)) (hu' : c.P.underlying t' = some .unsafePointer) (hii : Inf c.P e sz bt z) (hj : sz ≠ 0) (ho : o.op = .convert t t' x) (hx : s.ev x = some (.ref r 0)) (hr : fnd s.H r = some row) (hn : row.nil = false) (hc : 0 < row.cells.length) : RD c o s (.ref r 0) := fun g a w hs => by
  obtain ⟨j, hi, hi2, hi3, hi4⟩ := hii.out; obtain ⟨n, h1, h2⟩ := qI5 hs hr hn; have h3 := hs.ev hx; refine ⟨.pointer (some ⟨(g r).1, 0, none⟩), .ref _ _, fun w' hb => ?_⟩; have h4 : a.eval x = .pointer (some ⟨(g r).1, 0, none⟩) := by generalize a.eval x = u at h3; cases h3; rfl
  have h := Lib.run_to_unsafe w' (P := c.P) ⟨(g r).1, 0, none⟩ hu hu' hi zg (h1 w' hb) (by show 0 < n; omega)
  simp only [execOp, ho, h4, Sem.run_bind, h, Result.andThen_ok]; rfl
theorem qD4 {t t' u : TypeId} {x : Operand} {r : Nat} (hu : c.P.underlying t = some .unsafePointer) (hu' : c.P.underlying t' = some (.pointer u)) (hii : Inf c.P u sz bt z) (ho : o.op = .convert t t' x) (hx : s.ev x = some (.ref r 0)) (hr : fnd s.H r = some row) (hn : row.nil = false) (hz : 0 < c.P.cellsOf row.ty) (hc : c.P.cellsOf row.ty ≤ row.cells.length) (hl : rowAt c.P (fun x => sameLayout c.P c.P.depth x u) c.P.depth row.ty 1 0 1 = true) : RD c o s (.ref r 0) := fun g a w hs => by
  obtain ⟨j, hi, hi2, hi3, hi4⟩ := hii.out; obtain ⟨n, h1, h2⟩ := qI5 hs hr hn; have h3 := hs.ev hx; refine ⟨.pointer (some ⟨(g r).1, 0, none⟩), .ref _ _, fun w' hb => ?_⟩; have h4 : a.eval x = .pointer (some ⟨(g r).1, 0, none⟩) := by generalize a.eval x = u at h3; cases h3; rfl
  have h := Lib.run_from_unsafe w' (P := c.P) ⟨(g r).1, 0, none⟩ hu hu' hi (h1 w' hb) (qT3 (Nat.div_pos zg hz) hl); simp only [execOp, ho, h4, Sem.run_bind, h, Result.andThen_ok]; rfl
theorem j20 {x fx : Operand} {ts : Array TypeId} {r k : Nat} (hf : c.P.funcs[f]? = some fn) (jX5 : (fn.name == "runtime.NumGoroutine") = false) (hb : fn.body.isNone = true) (hn : Extern.findNext fn = none) (he : Extern.find fn = some Extern.AbiNoEscape.same) (ho : o.op = .call { callee := .value fx, args := #[x], argTypes := ts }) (wc : s.ev fx = some (.fn f [])) (hx : s.ev x = some (.ref r k)) : RP c o s (.ref r k) := fun g a w hs => by
  have uY : a.eval fx = .func (.func f) #[] ([] : List Value).toArray := by
    have h := hs.ev wc; generalize a.eval fx = u at h
    cases h with
    | fn _ _ cs hl _ =>
      obtain rfl : cs = [] := by cases cs with | nil => rfl | cons => simp at hl
      rfl
  have h3 := hs.ev hx; refine ⟨.pointer (some ⟨(g r).1, k, none⟩), .ref _ _, fun w' => ?_⟩; have h4 : a.eval x = .pointer (some ⟨(g r).1, k, none⟩) := by generalize a.eval x = u at h3; cases h3; rfl
  have h := run_callFunc_extern (P := c.P) hf jX5 hb hn he #[.pointer (some ⟨(g r).1, k, none⟩)] w'; have h5 : (Extern.AbiNoEscape.same #[.pointer (some ⟨(g r).1, k, none⟩)]).run c.P w' = .ok (.pointer (some ⟨(g r).1, k, none⟩)) w' := Lib.run_noEscape w' _; rw [h5] at h
  simp only [execOp, ho, resolve, Deferred.ofValue, uY, invoke, Sem.run_bind, Sem.run_pure, Result.andThen_ok, map_toArray, map_cons, map_nil, h4]
  simpa using h
end
section
variable {c : Cx} {s : S} {Q : Exit → S → Prop} {L : List Oper} {n : Nat} {l l' : Array Bool} {i j k : Nat} {o : Oper}
def AN (c : Cx) (ops : Array Oper) (Q : Exit → S → Prop) (n : Nat) (l : Array Bool) (s : S) : Prop := uE .any ops l → ∀ g a w, Sim c g s a w → qs1 c.P .any ops (QQ c Q) (fun _ => True) (fun _ => true) n l a w
theorem ql (hi : L[i]? = some o) (hg : o.guard = none) (hd : dok s o = true) (hp : noP Q) (x6 : (Region.noSelect L.toArray && (Region.ready .any L.toArray l).contains i && Region.free .any L.toArray l i) = true) (hl : l.setIfInBounds i true = l') (h : RP c o s v) (hN : AN c L.toArray Q n l' (s.put o.dst v)) : AN c L.toArray Q (n + 1) l s := by
  intro xM g a w hs; simp only [and_eq_true] at x6; obtain ⟨⟨h1, h2⟩, h3⟩ := x6; obtain ⟨x, h4, h5⟩ := h g a w hs; have hr : i ∈ Region.ready .any L.toArray l := by simpa using h2
  have hi' : L.toArray[i]? = some o := by simpa using hi
  subst hl
  exact q43 (N := 0) (oi := o) (fun j hj zk => .inl rfl) hi' (Region.noSelect_spec h1) (yu hp _ _) n l a w xM (Region.free_spec hi' h3) hr (.inl ⟨by simp [Region.wanted, hg], fun w' _ => h5 w'⟩) trivial (hN (wx xM hr) g _ w (hs.put o.dst (zJ hd) h4))
theorem qv {j : Nat} (hi : L[i]? = some o) (hg : o.guard = some (j, b)) (hy : yld L.toArray s j = some b) (hd : dok s o = true) (hp : noP Q) (x6 : (Region.noSelect L.toArray && (Region.ready .any L.toArray l).contains i && Region.free .any L.toArray l i) = true) (hl : l.setIfInBounds i true = l') (h : RP c o s v) (hN : AN c L.toArray Q n l' (s.put o.dst v)) : AN c L.toArray Q (n + 1) l s := by
  intro xM g a w hs; simp only [and_eq_true] at x6; obtain ⟨⟨h1, h2⟩, h3⟩ := x6; obtain ⟨x, h4, h5⟩ := h g a w hs; have hr : i ∈ Region.ready .any L.toArray l := by simpa using h2
  have hi' : L.toArray[i]? = some o := by simpa using hi
  subst hl
  exact q43 (N := 0) (oi := o) (fun j hj zk => .inl rfl) hi' (Region.noSelect_spec h1) (yu hp _ _) n l a w xM (Region.free_spec hi' h3) hr (.inl ⟨by simp [Region.wanted, hg, yn hy hs], fun w' _ => h5 w'⟩) trivial (hN (wx xM hr) g _ w (hs.put o.dst (zJ hd) h4))
theorem qG {j : Nat} (hi : L[i]? = some o) (hg : o.guard = some (j, b)) (hy : (∃ b', yld L.toArray s j = some b' ∧ (b' == b) = false) ∨ und L.toArray s j) (hd : dok s o = true) (hp : noP Q) (x6 : (Region.noSelect L.toArray && (Region.ready .any L.toArray l).contains i && Region.free .any L.toArray l i) = true) (hl : l.setIfInBounds i true = l') (hN : AN c L.toArray Q n l' (s.put o.dst (.d (.p undef)))) : AN c L.toArray Q (n + 1) l s := by
  intro xM g a w hs; simp only [and_eq_true] at x6; obtain ⟨⟨h1, h2⟩, h3⟩ := x6; have hr : i ∈ Region.ready .any L.toArray l := by simpa using h2
  have hi' : L.toArray[i]? = some o := by simpa using hi
  subst hl; refine q43 (N := 0) (oi := o) (v := undef) (fun j hj zk => .inl rfl) hi' (Region.noSelect_spec h1) (yu hp _ _) n l a w xM (Region.free_spec hi' h3) hr (.inr ⟨?_, rfl⟩) trivial (hN (wx xM hr) g _ w (hs.put o.dst (zJ hd) (.d _ _ (.p _))))
  rcases hy with ⟨b', h, hb⟩ | h
  · simp only [Region.wanted, hg, yn h hs]; simpa using hb
  simp only [Region.wanted, hg, qT1 h hs]; simp
def BR (c : Cx) (L : List Oper) (Q : Exit → S → Prop) (n : Nat) (l : Array Bool) (s : S) (i : Nat) : Prop := uE .any L.toArray l → i ∈ Region.ready .any L.toArray l → ∀ g a w, Sim c g s a w → wpOp c.P L.toArray (QQ c Q) i (fun a' w' => ((fun _ => true) i = true → (fun _ => True) w') ∧ qs1 c.P .any L.toArray (QQ c Q) (fun _ => True) (fun _ => true) n (l.setIfInBounds i true) a' w') a w
theorem jU (hi : L[i]? = some o) (hg : o.guard = none) (hl : l.setIfInBounds i true = l') (h : vm c o s (AN c L.toArray Q n l')) : BR c L Q n l s i := fun xM hr g a w hs =>
  u6 (by simpa using hi) hg (h g a w hs _ _ fun g' s' a' w' hn hs' => ⟨fun _ => trivial, by rw [hl]; exact hn (hl ▸ wx xM hr) g' a' w' hs'⟩)
theorem jV {j : Nat} (hi : L[i]? = some o) (hg : o.guard = some (j, b)) (hy : yld L.toArray s j = some b) (hl : l.setIfInBounds i true = l') (h : vm c o s (AN c L.toArray Q n l')) : BR c L Q n l s i := fun xM hr g a w hs =>
  qP2 (by simpa using hi) (by simp [Region.wanted, hg, yn hy hs]) (h g a w hs _ _ fun g' s' a' w' hn hs' => ⟨fun _ => trivial, by rw [hl]; exact hn (hl ▸ wx xM hr) g' a' w' hs'⟩)
theorem jB {rs : List Nat} (hr : Region.ready .any L.toArray l = rs) (zT : rs ≠ []) (h : ∀ i ∈ rs, BR c L Q n l s i) : AN c L.toArray Q (n + 1) l s := by
  intro xM g a w hs
  exact ⟨fun h0 => absurd (hr.symm.trans h0) zT, fun j hj => h j (hr ▸ hj) xM hj g a w hs⟩
theorem qp (hr : Region.ready .any L.toArray l = [i]) (h : BR c L Q n l s i) : AN c L.toArray Q (n + 1) l s := jB hr zx fun x hx => by
  obtain rfl := List.mem_singleton.1 hx; exact h
theorem qy (hr : Region.ready .any L.toArray l = [i, j]) (h : BR c L Q n l s i) (h2 : BR c L Q n l s j) : AN c L.toArray Q (n + 1) l s := jB hr zx fun x hx => by grind
theorem qL (hr : Region.ready .any L.toArray l = []) (h : Q .normal s) : AN c L.toArray Q 0 l s := fun xM g a w hs => ⟨hr, g, s, h, hs⟩
theorem ST.rd {N : S → Prop} (hd : dok s o = true) (h : RD c o s v) (hN : N (s.put o.dst v)) : vm c o s N := by
  intro g a w hs K Q hK; obtain ⟨x, h1, h2⟩ := h g a w hs; unfold Oper.wp; rw [h2 w (Below.refl _ _)]; exact hK g _ _ _ hN (hs.put o.dst (zJ hd) h1)
theorem jb {N : S → Prop} {X : S} (h : vm c o s (fun s' => s' = X)) (hN : N X) : vm c o s N := fun g a w hs K Q hK => h g a w hs K Q fun g' s' a' w' h1 h2 => hK g' s' a' w' (by rw [h1]; exact hN) h2
theorem ji {N : S → Prop} {post : V → Prop} (h : StepM c o s (fun s' => ∃ v, post v ∧ v.pure ∧ s' = s.put o.dst v)) (hN : ∀ v, post v → v.pure → N (s.put o.dst v)) : vm c o s N := fun g a w hs K Q hK => h.step g a w hs K Q fun g' s' a' w' ⟨v, h1, h2, h3⟩ h4 => hK g' s' a' w' (by rw [h3]; exact hN v h1 h2) h4
theorem qP {N : S} (n : Nat) (hm : c.P.follows .mixedOrders = true) (zI : L.length = n) (hl : Array.replicate n false = l) (h : AN c L.toArray (QJ N) n l s) (hN : Q .normal N) : AW c (.region id L.toArray true) Q s := by
  intro g a w hs
  refine wp_mono (Q := QQ c (QJ N)) ?_ (fun e a w hq => by
    obtain ⟨g', s', h3, h4⟩ := hq
    cases e <;> first | exact ⟨g', N, hN, h4.less h3⟩ | exact h3.elim)
  refine wp_region_any hm ?_; have hs' : Sim c g s a w.drew := hs.move (Below.drew (Below.refl _ _)); subst hl zI
  have h1 := q08 _ _ _ _ (h (by
    intro j oj _ hl; rw [Array.getD_eq_getD_getElem?, Array.getElem?_replicate] at hl
    split at hl <;> simp at hl) g a _ hs')
  simpa using h1
end
end Go.Proofs.YthiknkcigcglkaaGreatDoor
