/- Part 4 of what the law LeastMakes rests on. -/
import Derived.Deep.Upon
import Derived.Scope
import Derived.Lib.LaidTab
import Derived.Lib.Builder
import Derived.Test.YthiknkcigcglkaaGreatDoorPkLe1
import Derived.Test.YthiknkcigcglkaaGreatDoorPkLe2
import Derived.Test.YthiknkcigcglkaaGreatDoorPkLe3
namespace Go.Proofs.YthiknkcigcglkaaGreatDoor
open Go.RowKit
set_option linter.unusedSimpArgs false
set_option linter.unusedVariables false
set_option maxRecDepth 100000
set_option maxHeartbeats 8000000
mutual
def V.low (b : Nat) : V → Bool
  | .d _ => true
  | .ad _ => true
  | .ref k _ => decide (k < b)
  | .own k _ _ _ => decide (k < b)
  | .que k _ _ _ => decide (k < b)
  | .agg l => V.lowL b l
  | .tup l => V.lowL b l
  | .fn _ l => V.lowL b l
  | .mp k _ _ => decide (k < b)
  | .mq k _ _ => decide (k < b)
  | .ifc _ v => V.low b v
  | .mp2 _ k k' _ _ _ => decide (k < b) && decide (k' < b)
  | .it k _ _ _ => decide (k < b)
  | .mit k k' _ _ _ => decide (k < b) && decide (k' < b)
  | .mm k _ _ => decide (k < b)
  | .blk _ _ _ => true
  | .junk => true
def V.lowL (b : Nat) : List V → Bool
  | [] => true
  | v :: l => V.low b v && V.lowL b l
end
mutual
theorem V.low_has {b r : Nat} (hr : b ≤ r) : ∀ (v : V), v.low b = true → v.has r = false
  | .d _, _ => rfl
  | .ad _, _ => rfl
  | .ref k _, h => by simp [V.low] at h; simp [V.has]; omega
  | .own k _ _ _, h => by simp [V.low] at h; simp [V.has]; omega
  | .que k _ _ _, h => by simp [V.low] at h; simp [V.has]; omega
  | .agg l, h => V.lowL_has hr l (by simpa [V.low] using h)
  | .tup l, h => V.lowL_has hr l (by simpa [V.low] using h)
  | .fn _ l, h => V.lowL_has hr l (by simpa [V.low] using h)
  | .mp k _ _, h => by simp [V.low] at h; simp [V.has]; omega
  | .mq k _ _, h => by simp [V.low] at h; simp [V.has]; omega
  | .ifc _ v, h => by simpa [V.has] using V.low_has hr v (by simpa [V.low] using h)
  | .mp2 _ k k' _ _ _, h => by simp [V.low] at h; simp [V.has]; omega
  | .it k _ _ _, h => by simp [V.low] at h; simp [V.has]; omega
  | .mit k k' _ _ _, h => by simp [V.low] at h; simp [V.has]; omega
  | .mm k _ _, h => by simp [V.low] at h; simp [V.has]; omega
  | .blk _ _ _, _ => rfl
  | .junk, _ => rfl
theorem V.lowL_has {b r : Nat} (hr : b ≤ r) : ∀ (l : List V), V.lowL b l = true → V.hasL r l = false
  | [], _ => rfl
  | v :: l, h => by
    simp only [V.lowL, Bool.and_eq_true] at h
    simp only [V.hasL, V.low_has hr v h.1, V.lowL_has hr l h.2, Bool.or_false]
end
def junkHi (b : Nat) (v : V) : V := if v.low b then v else .junk
theorem junkHi_wk {b r : Nat} (hr : b ≤ r) (v : V) : Wk (junkHi b v) (junkIf r v) := by
  unfold junkHi
  split
  · rename_i h
    rw [junkIf, if_neg (by rw [V.low_has hr v h]; simp)]
    exact .refl _
  exact .junk _
section
variable {β : Type} {F : Fam β} {c : Cx} {s : S} {o : Oper} {Q : Exit → S → Prop}
theorem fnd_app {α : Type} : ∀ (l l' : List (Nat × α)) (i : Nat), fnd (l ++ l') i = match fnd l i with | some v => some v | none => fnd l' i
  | [], l', i => by simp [fnd]
  | (k, v) :: l, l', i => by
    simp only [List.cons_append, fnd]
    split
    · rfl
    exact fnd_app l l' i
theorem fnd_low {α : Type} {b : Nat} {l : List (Nat × α)} (h : l.all (fun x => decide (x.1 < b)) = true) {i : Nat} (hi : b ≤ i) : fnd l i = none := by
  cases hh : fnd l i with
  | none => rfl
  | some v =>
    have := List.all_eq_true.1 h _ (fnd_mem hh)
    simp at this
    omega
theorem Fam.cells_has {m : Nat} (hm : ∀ x, (F.pre x).length = m) : ∀ (l : List β) (k p j : Nat) (v : V), (F.cells k l)[j]? = some v → v.has (k + p) = true → j = p * (m + 1) + m
  | [], k, p, j, v, h, hv => by simp [Fam.cells] at h
  | x :: l, k, p, j, v, h, hv => by
    simp only [Fam.cells] at h
    by_cases hj : j < m
    · rw [List.getElem?_append_left (by simpa [hm] using hj)] at h
      rw [List.getElem?_map] at h
      cases hd : (F.pre x)[j]? with
      | none => rw [hd] at h; cases h
      | some d => rw [hd] at h; simp at h; subst h; simp [V.has] at hv
    rw [List.getElem?_append_right (by simp [hm]; omega)] at h
    simp only [List.length_map, hm] at h
    cases hjm : j - m with
    | zero =>
      rw [hjm] at h
      simp at h
      subst h
      simp [Fam.ownV, V.has] at hv
      subst hv
      omega
    | succ i =>
      rw [hjm, List.getElem?_cons_succ] at h
      cases p with
      | zero =>
        have := V.hasL_false.1 (Fam.cells_hasL (F := F) l (k + 1) k zT15) v (List.mem_of_getElem? h)
        rw [Nat.add_zero, this] at hv
        cases hv
      | succ p =>
        have := Fam.cells_has hm l (k + 1) p i v h (by rw [show k + 1 + p = k + (p + 1) by omega]; exact hv)
        rw [Nat.succ_mul]
        omega
/-- An element of one of the slices is appended: the cell that held the slice is stale until it is stored again. -/
theorem st_append_famX {lits : List (Nat × Row)} {L : List β} {base p rb m r2 bt : Nat} {t : TypeId} {x y : Operand} {x0 x' : β} {z : Value} {row2 : Row} {zb : Nat} {tyb : TypeId} {fb : Bool} {newrow : List D} (hu : c.P.underlying t = some (.slice F.ty)) (hi : Inf c.P F.ty F.sz bt z) (hzs : z.cells.size = F.sz) (hsz : 0 < F.sz) (hb64 : bt ≤ 64)
    (ho : o.op = .call { callee := .builtin .append, args := #[x, y], argTypes := #[t, t] }) (hH : s.H = lits ++ F.objs base L) (hx : s.ev x = some (F.ownV (base + p) x0)) (hp : L[p]? = some x0) (hm : ∀ x, (F.pre x).length = m) (hrow : ∀ x, ∀ l ∈ F.it x, l.length = F.sz)
    (hlow : lits.all (fun x => decide (x.1 < base)) = true) (hrb : fnd lits rb = some ⟨tyb, F.cells base L, fb, zb⟩) (hy : s.ev y = some (.own r2 F.sz 1 false)) (hr2 : fnd lits r2 = some row2) (hf2 : row2.nil = false) (hnews : row2.cells.take (1 * F.sz) = newrow.map V.d) (hone : (newrow.map V.d).all V.one = true)
    (hpre : F.pre x' = F.pre x0) (hit : F.it x' = F.it x0 ++ [newrow]) (hnl : newrow.length = F.sz) (hd : dok s o = true) (hlo : ∀ x ∈ lits, x.1 ≠ rb → V.hasL (base + p) x.2.cells = false) (hlen : (F.it x0).length ≤ 1000000) :
    StepX c o s (base + p) (fun s' => s' = S.put ⟨s.n, s.T.map (fun x => (x.1, junkHi base x.2)), (rb, ⟨tyb, (F.cells base (L.set p x')).set (p * (m + 1) + m) .junk, fb, zb⟩) :: lits ++ F.objs base (L.set p x'), s.K.map (junkHi base)⟩ o.dst (F.ownV (base + p) x')) := by
  have hpl : p < L.length := (List.getElem?_eq_some_iff.1 hp).1
  have hfl : ∀ x, (F.it x).flatten.length = (F.it x).length * F.sz := by
    intro x
    have := hrow x
    generalize F.it x = l at this
    induction l with
    | nil => simp
    | cons y l ih => simp [ih (fun z hz => this z (by simp [hz])), this y zT16, Nat.succ_mul, Nat.add_comm]
  have hfr : fnd s.H (base + p) = some (F.row x0) := by rw [hH, fnd_app, fnd_low hlow zT15, Fam.objs_get, hp]; rfl
  have hrb' : rb < base := by have := List.all_eq_true.1 hlow _ (fnd_mem hrb); simpa using this
  have hr2' : fnd s.H r2 = some row2 := by rw [hH, fnd_app, hr2]
  have key := st_appendX (n := (F.it x0).length) (m := 1) (f := (F.it x0).isEmpty) hu hi hzs hsz ho (by rw [hx]; rfl) hfr rfl rfl rfl (l1 := (F.row x0).cells) (List.take_of_length_le (by simp only [Fam.row, List.length_map, hfl]; exact Nat.le_refl _)) (by simp only [Fam.row, List.length_map, hfl]) (Fam.row_hasL x0 _) hy hr2' hf2 hnews (by simp [hnl]) (hasL_dmap _ _) hone zT15 zT15 (by
    have : ((F.it x0).length + 1) * bt ≤ 1000001 * 64 := Nat.mul_le_mul zT15 hb64
    omega) hd
  intro g a w hs K Q' hK
  refine key g a w hs K Q' fun g' s' a' w' hs' hsim hx' => ?_
  subst hs'
  have hne : (F.it x').isEmpty = false := by rw [hit]; cases F.it x0 <;> rfl
  have hlx : (F.it x').length = (F.it x0).length + 1 := by rw [hit]; simp
  have hval : F.ownV (base + p) x' = .own (base + p) F.sz ((F.it x0).length + 1) false := by rw [Fam.ownV, hne, hlx]
  have hrowx : F.row x' = ⟨F.ty, (F.row x0).cells ++ newrow.map V.d, false, F.sz⟩ := by unfold Fam.row; rw [hne, hit]; congr 1; simp only [List.flatten_append, List.map_append, List.flatten_cons, List.flatten_nil, List.append_nil]
  refine hK g' _ a' w' rfl (hsim.less ⟨?_, ?_, ?_, ?_⟩) hx'
  · cases o.dst <;> rfl
  · intro i v hv
    have hT : ∀ v, fnd (s.T.map (fun x => (x.1, junkHi base x.2))) i = some v → ∃ u, fnd (s.forget (base + p)).T i = some u ∧ Wk v u := by
      intro v hv
      rw [fnd_map] at hv
      simp only [S.forget]
      rw [fnd_map]
      cases hu : fnd s.T i with
      | none => rw [hu] at hv; cases hv
      | some u => rw [hu] at hv; simp at hv; subst hv; exact ⟨_, rfl, junkHi_wk zT15 u⟩
    cases hdst : o.dst with
    | none =>
      rw [hdst] at hv
      exact hT v hv
    | some d =>
      rw [hdst] at hv
      simp only [S.put, fnd] at hv ⊢
      split at hv
      · rename_i e
        simp only [Option.some.injEq] at hv
        subst hv
        simp only [e, if_true]
        exact ⟨_, rfl, by rw [hval]; exact .refl _⟩
      rename_i e
      simp only [e, if_false]
      exact hT v hv
  · intro r row' hr
    have hr : fnd ((rb, (⟨tyb, (F.cells base (L.set p x')).set (p * (m + 1) + m) .junk, fb, zb⟩ : Row)) :: lits ++ F.objs base (L.set p x')) r = some row' := by
      cases hdst : o.dst <;> (rw [hdst] at hr; exact hr)
    have goal : ∃ row, fnd ((base + p, (⟨F.ty, (F.row x0).cells ++ newrow.map V.d, false, F.sz⟩ : Row)) :: (s.forget (base + p)).H) r = some row ∧ row'.ty = row.ty ∧ row'.nil = row.nil ∧ row'.sz = row.sz ∧ ∀ (j : Nat) (v : V), row'.cells[j]? = some v → ∃ u, row.cells[j]? = some u ∧ Wk v u := by
      have hfor : ∀ r, r ≠ base + p → fnd ((base + p, (⟨F.ty, (F.row x0).cells ++ newrow.map V.d, false, F.sz⟩ : Row)) :: (s.forget (base + p)).H) r = (fnd s.H r).map (fun (x : Row) => ({ x with cells := if V.hasL (base + p) x.cells then x.cells.map (junkIf (base + p)) else x.cells } : Row)) := by
        intro r hne
        simp only [fnd, beq_iff_eq, Ne.symm hne, if_false, S.forget]
        rw [fnd_map (fun (x : Row) => ({ x with cells := if V.hasL (base + p) x.cells then x.cells.map (junkIf (base + p)) else x.cells } : Row)), fnd_filter _ _ _ hne]
      rw [List.cons_append, fnd] at hr
      by_cases e : rb = r
      · subst e
        rw [if_pos zT16] at hr
        have hr := Option.some.inj hr
        subst hr
        have h1 : fnd s.H rb = some ⟨tyb, F.cells base L, fb, zb⟩ := by rw [hH, fnd_app, hrb]
        rw [hfor rb zT15, h1]
        refine ⟨_, rfl, rfl, rfl, rfl, fun j v hv => ?_⟩
        rw [Fam.cells_setown hm L base p x0 x' _ hp hpre, List.getElem?_set] at hv
        have hhas : V.hasL (base + p) (F.cells base L) = true := by
          cases hh : V.hasL (base + p) (F.cells base L) with
          | true => rfl
          | false =>
            have h2 := V.hasL_false.1 hh _ (List.mem_of_getElem? (Fam.cells_own hm L base p x0 hp))
            simp [Fam.ownV, V.has] at h2
        dsimp only
        rw [if_pos hhas, List.getElem?_map]
        have hcl : (F.cells base L)[p * (m + 1) + m]? = some (F.ownV (base + p) x0) := Fam.cells_own hm L base p x0 hp
        split at hv
        · rename_i e
          subst e
          rw [if_pos (List.getElem?_eq_some_iff.1 hcl).1] at hv
          simp only [Option.some.injEq] at hv
          subst hv
          rw [hcl]
          exact ⟨_, rfl, .junk _⟩
        rename_i e
        rw [hv]
        refine ⟨_, rfl, ?_⟩
        have : v.has (base + p) = false := by
          cases hh : v.has (base + p) with
          | false => rfl
          | true => exact absurd (Fam.cells_has hm L base p j v hv hh).symm e
        rw [junkIf, this]
        exact .refl _
      rw [if_neg (by simpa using e)] at hr
      rw [fnd_app] at hr
      cases hl : fnd lits r with
      | some row =>
        rw [hl] at hr
        simp only [Option.some.injEq] at hr
        subst hr
        have hrl : r < base := by have := List.all_eq_true.1 hlow _ (fnd_mem hl); simpa using this
        rw [hfor r zT15, hH, fnd_app, hl]
        have := hlo _ (fnd_mem hl) (fun e' => e e'.symm)
        simp only at this
        exact ⟨_, rfl, rfl, rfl, rfl, fun j v hv => ⟨v, by dsimp only; rw [this, if_neg zT16]; exact hv, .refl _⟩⟩
      | none =>
        rw [hl] at hr
        simp only at hr
        obtain ⟨i, y, rfl, hy', rfl⟩ := Fam.objs_inv hr
        by_cases hip : i = p
        · subst hip
          rw [List.getElem?_set_self hpl] at hy'
          simp only [Option.some.injEq] at hy'
          subst hy'
          refine ⟨⟨F.ty, (F.row x0).cells ++ newrow.map V.d, false, F.sz⟩, by simp [fnd], by rw [hrowx], by rw [hrowx], by rw [hrowx], fun j v hv => ⟨v, by rw [hrowx] at hv; exact hv, .refl _⟩⟩
        rw [List.getElem?_set_ne (Ne.symm hip)] at hy'
        rw [hfor _ zT15, hH, fnd_app, fnd_low hlow zT15, Fam.objs_get, hy']
        exact ⟨_, rfl, rfl, rfl, rfl, fun j v hv => ⟨v, by dsimp only; rw [Fam.row_hasL, if_neg zT16]; exact hv, .refl _⟩⟩
    cases hdst : o.dst <;> exact goal
  intro j v hv
  have hv : (s.K.map (junkHi base))[j]? = some v := by cases hdst : o.dst <;> (rw [hdst] at hv; exact hv)
  have goal : ∃ u, (s.K.map (junkIf (base + p)))[j]? = some u ∧ Wk v u := by
    rw [List.getElem?_map] at hv ⊢
    cases hu : s.K[j]? with
    | none => rw [hu] at hv; cases hv
    | some u => rw [hu] at hv; simp at hv; subst hv; exact ⟨_, rfl, junkHi_wk zT15 u⟩
  cases hdst : o.dst <;> exact goal
/-- The slice of an element. -/
theorem rd_load_fam {t : TypeId} {d : TypeDesc} {x : Operand} {rb k p m base : Nat} {row : Row} {L : List β} {x0 : β} (hu : c.P.underlying t = some d) (hd : isAggD d = false) (ho : o.op = .load t x) (hx : s.ev x = some (.ref rb k)) (hr : fnd s.H rb = some row) (hn : row.nil = false) (hc : row.cells = F.cells base L) (hm : ∀ x, (F.pre x).length = m) (hk : k = p * (m + 1) + m) (hp : L[p]? = some x0) : RD c o s (F.ownV (base + p) x0) :=
  rd_load_ref hu hd ho hx hr hn (by rw [hc, hk]; exact Fam.cells_own hm L base p x0 hp)
/-- A plain cell of an element. -/
theorem rd_load_fpre {t : TypeId} {d : TypeDesc} {x : Operand} {rb k p j m base : Nat} {row : Row} {L : List β} {x0 : β} {v : D} (hu : c.P.underlying t = some d) (hd : isAggD d = false) (ho : o.op = .load t x) (hx : s.ev x = some (.ref rb k)) (hr : fnd s.H rb = some row) (hn : row.nil = false) (hc : row.cells = F.cells base L) (hm : ∀ x, (F.pre x).length = m) (hk : k = p * (m + 1) + j) (hp : L[p]? = some x0) (hv : (F.pre x0)[j]? = some v) : RD c o s (.d v) :=
  rd_load_ref hu hd ho hx hr hn (by rw [hc, hk]; exact Fam.cells_pre hm L base p j x0 v hp hv)
/-- The slice is stored again. -/
theorem st_store_fam {t : TypeId} {bt : Nat} {z : Value} {x y : Operand} {rb k p m base : Nat} {row : Row} {L : List β} {x0 : β} (hi : Inf c.P t 1 bt z) (ho : o.op = .store t x y) (hd : o.dst = none) (hx : s.ev x = some (.ref rb k)) (hy : s.ev y = some (F.ownV (base + p) x0)) (hr : fnd s.H rb = some row) (hn : row.nil = false)
    (hm : ∀ x, (F.pre x).length = m) (hc : row.cells = (F.cells base L).set (p * (m + 1) + m) .junk) (hk : k = p * (m + 1) + m) (hp : L[p]? = some x0) : Step c o s (fun s' => s' = { s with H := (rb, { row with cells := F.cells base L }) :: s.H }) := by
  have hcl := Fam.cells_own hm L base p x0 hp
  exact st_store hi ho hd hx hy hr hn rfl (by rw [hc, hk, List.length_set]; exact (List.getElem?_eq_some_iff.1 hcl).1) (by rw [hc, hk, Fam.cells_put hm hp])
/-- A plain cell is stored. -/
theorem st_store_fpre {t : TypeId} {bt : Nat} {z : Value} {x y : Operand} {rb k p j m base : Nat} {row : Row} {L : List β} {x0 : β} (x' : β) {lits : List (Nat × Row)} {v : D} (hi : Inf c.P t 1 bt z) (ho : o.op = .store t x y) (hd : o.dst = none) (hx : s.ev x = some (.ref rb k)) (hy : s.ev y = some (.d v)) (hH : s.H = lits ++ F.objs base L) (hr : fnd lits rb = some row) (hn : row.nil = false)
    (hm : ∀ x, (F.pre x).length = m) (hc : row.cells = F.cells base L) (hk : k = p * (m + 1) + j) (hp : L[p]? = some x0) (hj : j < m) (hone : (V.d v).one = true) (hpre : F.pre x' = (F.pre x0).set j v) (hit : F.it x' = F.it x0) : Step c o s (fun s' => s' = ⟨s.n, s.T, (rb, { row with cells := F.cells base (L.set p x') }) :: lits ++ F.objs base (L.set p x'), s.K⟩) := by
  have hpl := (List.getElem?_eq_some_iff.1 hp).1
  have key := st_store (l := F.cells base (L.set p x')) hi ho hd hx hy (row := row) (by rw [hH, fnd_app, hr]) hn hone (by
    rw [hc, hk, Fam.cells_len hm]
    have : p * (m + 1) + (m + 1) ≤ L.length * (m + 1) := by rw [← Nat.succ_mul]; exact Nat.mul_le_mul_right _ hpl
    omega) (by rw [hc, hk, Fam.cells_setpre hm L base p j x0 x' v hp hj hpre hit])
  rw [Fam.objs_setpre L base p x0 x' hp hit]
  rw [hH] at key
  exact key
end
section
variable {β : Type} {F : Fam β} {c : Cx} {s : S} {Q : Exit → S → Prop}
theorem Fam.adopt_get (F : Fam β) : ∀ (l : List β) (k j : Nat) (v' : V), (∀ x ∈ l, F.it x = []) → (F.cells k l)[j]? = some v' → ∃ v, (l.flatMap fun x => (F.pre x).map V.d ++ [V.nil])[j]? = some v ∧ (v' = v ∧ (∀ r, v.has r = false) ∨ ∃ k', v' = .own k' F.sz 0 true ∧ v = .nil)
  | [], k, j, v', hl, h => by simp [Fam.cells] at h
  | x :: l, k, j, v', hl, h => by
    have hx : F.ownV k x = .own k F.sz 0 true := by simp [Fam.ownV, hl x zT16]
    simp only [Fam.cells, hx] at h
    rw [List.flatMap_cons, List.append_assoc]
    by_cases hj : j < (F.pre x).length
    · rw [List.getElem?_append_left (by simpa using hj)] at h ⊢
      refine ⟨v', h, .inl ⟨rfl, ?_⟩⟩
      rw [List.getElem?_map] at h
      cases hd : (F.pre x)[j]? with
      | none => rw [hd] at h; cases h
      | some d => rw [hd] at h; simp at h; subst h; intro r; rfl
    rw [List.getElem?_append_right zT11] at h ⊢
    simp only [List.length_map] at h ⊢
    cases hjm : j - (F.pre x).length with
    | zero =>
      rw [hjm] at h
      simp at h
      subst h
      exact ⟨_, rfl, .inr ⟨k, rfl, rfl⟩⟩
    | succ i =>
      rw [hjm, List.getElem?_cons_succ] at h
      simpa using Fam.adopt_get F l (k + 1) i v' (fun y hy => hl y (by simp [hy])) h
/-- The row's slices, none of which has an element yet, may grow from now on. -/
theorem AW.famAdopt {code : Code} (F : Fam β) (base rb : Nat) (L : List β) {row : Row} (hr : fnd s.H rb = some row) (hn : row.nil = false) (hc : row.cells = L.flatMap fun x => (F.pre x).map V.d ++ [V.nil]) (hL : ∀ x ∈ L, F.it x = []) (hlow : s.H.all (fun x => decide (x.1 < base)) = true)
    (h : AW c code Q ⟨s.n, s.T, (rb, { row with cells := F.cells base L }) :: s.H ++ F.objs base L, s.K⟩) : AW c code Q s := fun g a w hs => h _ a w (hs.conv id rfl
  (fun i v hv => ⟨v, hv, .same v fun _ _ => rfl⟩)
  (fun r row' hr' => by
    have hr' : fnd ((rb, { row with cells := F.cells base L }) :: (s.H ++ F.objs base L)) r = some row' := hr'
    rw [fnd] at hr'
    by_cases e : rb = r
    · subst e
      rw [if_pos zT16] at hr'
      have hr' := Option.some.inj hr'
      subst hr'
      refine .inr ⟨hn, row, hr, hn, rfl, rfl, fun j v' hv => ?_⟩
      obtain ⟨v, h1, h2⟩ := Fam.adopt_get F L base j v' hL hv
      refine ⟨v, by rw [hc]; exact h1, ?_⟩
      rcases h2 with ⟨rfl, h2⟩ | ⟨k', rfl, rfl⟩
      · exact .same _ fun _ _ => rfl
      exact .nil _ _
    rw [if_neg (by simpa using e), fnd_app] at hr'
    cases hl : fnd s.H r with
    | some row2 =>
      rw [hl] at hr'
      have hr' := Option.some.inj hr'
      subst hr'
      cases hnn : row2.nil with
      | true => exact .inl ⟨rfl, hs.nul r row2 hl hnn⟩
      | false => exact .inr ⟨rfl, row2, hl, hnn, rfl, rfl, fun j v hv => ⟨v, hv, .same v fun _ _ => rfl⟩⟩
    | none =>
      rw [hl] at hr'
      obtain ⟨p, x, rfl, hx, rfl⟩ := Fam.objs_inv hr'
      exact .inl (by simp [Fam.row, hL x (List.mem_of_getElem? hx)]))
  (fun j v hv => ⟨v, hv, .same v fun _ _ => rfl⟩)
  (fun _ _ _ _ _ _ _ _ e => e))
theorem Fam.data_get (F : Fam β) {m : Nat} (hm : ∀ x, (F.pre x).length = m) : ∀ (l : List β) (k j : Nat) (v' : V), (l.flatMap fun x => (F.data x).map V.d)[j]? = some v' → ∃ v, (F.cells k l)[j]? = some v ∧ (v' = v ∧ (∀ r, v.has r = false) ∨ ∃ p x, l[p]? = some x ∧ v' = .d (.sl F.sz F.bt (F.it x)) ∧ v = F.ownV (k + p) x)
  | [], k, j, v', h => by simp at h
  | x :: l, k, j, v', h => by
    rw [List.flatMap_cons] at h
    simp only [Fam.cells, Fam.data, List.map_append, List.append_assoc] at h ⊢
    by_cases hj : j < m
    · rw [List.getElem?_append_left (by simpa [hm] using hj)] at h ⊢
      refine ⟨v', h, .inl ⟨rfl, ?_⟩⟩
      rw [List.getElem?_map] at h
      cases hd : (F.pre x)[j]? with
      | none => rw [hd] at h; cases h
      | some d => rw [hd] at h; simp at h; subst h; intro r; rfl
    rw [List.getElem?_append_right (by simp [hm]; omega)] at h ⊢
    simp only [List.length_map, hm] at h ⊢
    cases hjm : j - m with
    | zero =>
      rw [hjm] at h
      simp at h
      subst h
      exact ⟨_, rfl, .inr ⟨0, x, rfl, rfl, rfl⟩⟩
    | succ i =>
      rw [hjm] at h
      simp only [List.map_cons, List.map_nil, List.cons_append, List.nil_append, List.getElem?_cons_succ] at h
      obtain ⟨v, h1, h2⟩ := Fam.data_get F hm l (k + 1) i v' (by simpa [Fam.data] using h)
      refine ⟨v, by simpa using h1, ?_⟩
      rcases h2 with h2 | ⟨p, y, h3, h4, h5⟩
      · exact .inl h2
      exact .inr ⟨p + 1, y, by simpa using h3, h4, by rw [h5, show k + 1 + p = k + (p + 1) by omega]⟩
theorem flat_get {rows : List (List D)} {sz : Nat} (hr : ∀ l ∈ rows, l.length = sz) : ∀ (i j : Nat) (l : List D) (u : D), rows[i]? = some l → l[j]? = some u → (rows.flatten.map V.d)[i * sz + j]? = some (.d u) := by
  induction rows with
  | nil => intro i j l u h; simp at h
  | cons y rows ih =>
    intro i j l u h1 h2
    have hy := hr y zT16
    rw [List.flatten_cons, List.map_append]
    cases i with
    | zero =>
      simp at h1
      subst h1
      have hj := (List.getElem?_eq_some_iff.1 h2).1
      rw [Nat.zero_mul, Nat.zero_add, List.getElem?_append_left (by simpa using hj)]
      simp [h2]
    | succ i =>
      rw [List.getElem?_append_right (by simp [hy]; rw [Nat.succ_mul]; omega)]
      simp only [List.length_map, hy]
      rw [show (i + 1) * sz + j - sz = i * sz + j by rw [Nat.succ_mul]; omega]
      exact ih (fun l hl => hr l (by simp [hl])) i j l u (by simpa using h1) h2
/-- The row and all its slices become plain data. -/
theorem AW.famFreeze {code : Code} (lits : List (Nat × Row)) (rb : Nat) {m base : Nat} {L : List β} {row : Row} (hH : s.H = lits ++ F.objs base L) (hr : fnd lits rb = some row) (hn : row.nil = false) (hc : row.cells = F.cells base L) (hm : ∀ x, (F.pre x).length = m) (hrow : ∀ x, ∀ l ∈ F.it x, l.length = F.sz) (hbt : ∀ x ∈ L, (F.it x).length * F.bt ≤ 140737488355328) (hlow : lits.all (fun x => decide (x.1 < base)) = true)
    (hlo : ∀ x ∈ lits, x.1 ≠ rb → ∀ r, base ≤ r → V.hasL r x.2.cells = false) (hT : s.T.all (fun x => x.2.low base) = true) (hK : V.lowL base s.K = true)
    (h : AW c code Q ⟨s.n, s.T, (rb, { row with cells := L.flatMap fun x => (F.data x).map V.d }) :: lits, s.K⟩) : AW c code Q s := fun g a w hs => h _ a w (hs.conv id rfl
  (fun i v hv => ⟨v, hv, .same v fun _ _ => rfl⟩)
  (fun r row' hr' => by
    have hr' : fnd ((rb, { row with cells := L.flatMap fun x => (F.data x).map V.d }) :: lits) r = some row' := hr'
    rw [fnd] at hr'
    by_cases e : rb = r
    · subst e
      rw [if_pos zT16] at hr'
      have hr' := Option.some.inj hr'
      subst hr'
      refine .inr ⟨hn, row, by show fnd s.H rb = _; rw [hH, fnd_app, hr], hn, rfl, rfl, fun j v' hv => ?_⟩
      obtain ⟨v, h1, h2⟩ := Fam.data_get F hm L base j v' hv
      refine ⟨v, by rw [hc]; exact h1, ?_⟩
      rcases h2 with ⟨rfl, h2⟩ | ⟨p, x, h3, rfl, rfl⟩
      · exact .same _ fun _ _ => rfl
      have hfr : fnd s.H (base + p) = some (F.row x) := by rw [hH, fnd_app, fnd_low hlow zT15, Fam.objs_get, h3]; rfl
      refine .frz (base + p) F.sz _ F.bt _ _ _ hfr rfl rfl (hbt x (List.mem_of_getElem? h3)) (flat_get (hrow x)) ?_
      intro k row2 hk hk2 e
      have hk : fnd ((rb, { row with cells := L.flatMap fun x => (F.data x).map V.d }) :: lits) k = some row2 := hk
      simp only [id] at e
      subst e
      have hrbl : rb < base := by have := List.all_eq_true.1 hlow _ (fnd_mem hr); simpa using this
      rw [fnd, if_neg zT11, fnd_low hlow zT15] at hk
      cases hk
    rw [if_neg (by simpa using e)] at hr'
    have h1 : fnd s.H r = some row' := by rw [hH, fnd_app, hr']
    cases hnn : row'.nil with
    | true => exact .inl ⟨rfl, hs.nul r row' h1 hnn⟩
    | false => exact .inr ⟨rfl, row', h1, hnn, rfl, rfl, fun j v hv => ⟨v, hv, .same v fun _ _ => rfl⟩⟩)
  (fun j v hv => ⟨v, hv, .same v fun _ _ => rfl⟩)
  (fun _ _ _ _ _ _ _ _ e => e))
/-- The row has got an element more, whose slice z was the call's own: it goes to the others. -/
theorem Sim.famPush {g : Nat → Nat × Nat} {a : Act} {w : World} (hs : Sim c g s a w) (lits : List (Nat × Row)) (rb z : Nat) (x : β) {base : Nat} {L : List β} {row : Row} (hH : s.H = lits ++ F.objs base L) (hr : fnd lits rb = some row) (hn : row.nil = false) (hz : fnd lits z = some (F.row x)) (hc : row.cells = F.cells base L ++ ((F.pre x).map V.d ++ [.own z F.sz (F.it x).length (F.it x).isEmpty])) (hzr : z ≠ rb) (hlow : lits.all (fun x => decide (x.1 < base)) = true)
    (hlo : ∀ x ∈ lits, x.1 ≠ rb → V.hasL z x.2.cells = false) (hT : s.T.all (fun x => !x.2.has z) = true) (hK : V.hasL z s.K = false) (hlo2 : ∀ x ∈ lits, x.1 ≠ rb → ∀ r, base ≤ r → V.hasL r x.2.cells = false) (hT2 : s.T.all (fun x => x.2.low base) = true) (hK2 : V.lowL base s.K = true) : ∃ g', Sim c g' ⟨s.n, s.T, (rb, { row with cells := F.cells base (L ++ [x]) }) :: lits.filter (fun x => x.1 != z) ++ F.objs base (L ++ [x]), s.K⟩ a w := by
  have hzb : z < base := by have := List.all_eq_true.1 hlow _ (fnd_mem hz); simpa using this
  have hrbb : rb < base := by have := List.all_eq_true.1 hlow _ (fnd_mem hr); simpa using this
  have hρ : ∀ v : V, v.has (base + L.length) = false → ∀ r, v.has r = true → (if r = base + L.length then z else r) = r := by
    intro v hv r hr
    rw [if_neg]
    rintro rfl
    rw [hv] at hr; cases hr
  have hfo : ∀ r row', fnd ((rb, { row with cells := F.cells base (L ++ [x]) }) :: (lits.filter (fun x => x.1 != z) ++ F.objs base (L ++ [x]))) r = some row' →
      r = rb ∧ row' = { row with cells := F.cells base (L ++ [x]) } ∨ (r ≠ rb ∧ r ≠ z ∧ r < base ∧ fnd lits r = some row') ∨ ∃ p y, r = base + p ∧ L[p]? = some y ∧ row' = F.row y ∨ r = base + L.length ∧ row' = F.row x := by
    intro r row' hr'
    rw [fnd] at hr'
    by_cases e : rb = r
    · subst e
      rw [if_pos zT16] at hr'
      exact .inl ⟨rfl, (Option.some.inj hr').symm⟩
    rw [if_neg (by simpa using e), fnd_app] at hr'
    have e := Ne.symm e
    cases hl : fnd (lits.filter (fun x => x.1 != z)) r with
    | some row2 =>
      rw [hl] at hr'
      have hr' := Option.some.inj hr'
      subst hr'
      by_cases ez : r = z
      · subst ez; rw [fnd_filter_self] at hl; cases hl
      rw [fnd_filter _ _ _ ez] at hl
      refine .inr (.inl ⟨e, ez, ?_, hl⟩)
      have := List.all_eq_true.1 hlow _ (fnd_mem hl)
      simpa using this
    | none =>
      rw [hl] at hr'
      obtain ⟨p, y, rfl, hy, rfl⟩ := Fam.objs_inv hr'
      rw [List.getElem?_append] at hy
      split at hy
      · exact .inr (.inr ⟨p, y, .inl ⟨rfl, hy, rfl⟩⟩)
      rename_i hpl
      cases hpp : p - L.length with
      | zero =>
        rw [hpp] at hy
        simp at hy
        subst hy
        exact .inr (.inr ⟨p, x, .inr ⟨by omega, rfl⟩⟩)
      | succ i => rw [hpp] at hy; simp at hy
  have hlitfnd : ∀ r row', fnd lits r = some row' → fnd s.H r = some row' := fun r row' hr' => by rw [hH, fnd_app, hr']
  have hobj : ∀ p y, L[p]? = some y → fnd s.H (base + p) = some (F.row y) := fun p y hy => by rw [hH, fnd_app, fnd_low hlow zT15, Fam.objs_get, hy]; rfl
  refine ⟨_, hs.conv (fun k => if k = base + L.length then z else k) rfl ?_ ?_ ?_ ?_⟩
  · intro i v hv
    refine ⟨v, hv, .same v (hρ v ?_)⟩
    have := List.all_eq_true.1 hT2 _ (fnd_mem hv)
    exact V.low_has zT15 v this
  · intro r row' hr'
    rcases hfo r row' hr' with ⟨rfl, rfl⟩ | ⟨e1, e2, e3, h1⟩ | ⟨p, y, ⟨rfl, hy, rfl⟩ | ⟨rfl, rfl⟩⟩
    · refine .inr ⟨hn, row, ?_, hn, rfl, rfl, fun j v' hv => ?_⟩
      · rw [if_neg zT15]; exact hlitfnd _ _ hr
      simp only at hv
      rw [Fam.cells_app] at hv
      rw [hc]
      have hz' : (F.cells base L ++ ((F.pre x).map V.d ++ [F.ownV (base + L.length) x]))[j]? = some v' := hv
      by_cases hj : j < (F.cells base L).length
      · rw [List.getElem?_append_left hj] at hz' ⊢
        refine ⟨v', hz', .same v' (hρ v' ?_)⟩
        cases hh : v'.has (base + L.length) with
        | false => rfl
        | true =>
          exfalso
          -- no element stands there
          have : ∀ (l : List β) (k : Nat) (v : V), v ∈ F.cells k l → v.has (k + l.length) = true → False := by
            intro l
            induction l with
            | nil => intro k v hv; simp [Fam.cells] at hv
            | cons y l ih =>
              intro k v hv hk
              simp only [Fam.cells, List.mem_append, List.mem_map, List.mem_cons] at hv
              rcases hv with ⟨d, _, rfl⟩ | rfl | hv
              · simp [V.has] at hk
              · simp [Fam.ownV, V.has] at hk
              exact ih (k + 1) v hv (by rw [show k + 1 + l.length = k + (y :: l).length by simp; omega]; exact hk)
          exact this L base v' (List.mem_of_getElem? hz') hh
      rw [List.getElem?_append_right zT15] at hz' ⊢
      by_cases hj2 : j - (F.cells base L).length < (F.pre x).length
      · rw [List.getElem?_append_left (by simpa using hj2)] at hz' ⊢
        refine ⟨v', hz', .same v' (hρ v' ?_)⟩
        rw [List.getElem?_map] at hz'
        cases hd : (F.pre x)[j - (F.cells base L).length]? with
        | none => rw [hd] at hz'; cases hz'
        | some d => rw [hd] at hz'; simp at hz'; subst hz'; rfl
      rw [List.getElem?_append_right zT11] at hz' ⊢
      generalize j - (F.cells base L).length - ((F.pre x).map V.d).length = i at hz' ⊢
      cases i with
      | zero =>
        simp at hz'
        subst hz'
        refine ⟨_, rfl, ?_⟩
        have := Cv.own (s := s) (s' := ⟨s.n, s.T, (r, { row with cells := F.cells base (L ++ [x]) }) :: lits.filter (fun x => x.1 != z) ++ F.objs base (L ++ [x]), s.K⟩) (ρ := fun k => if k = base + L.length then z else k) (base + L.length) F.sz (F.it x).length (F.it x).isEmpty
        simpa [Fam.ownV] using this
      | succ i => simp at hz'
    · have h2 := hlitfnd _ _ h1
      cases hnn : row'.nil with
      | true => exact .inl ⟨rfl, hs.nul r row' h2 hnn⟩
      | false =>
        refine .inr ⟨rfl, row', by rw [if_neg zT15]; exact h2, hnn, rfl, rfl, fun j v hv => ⟨v, hv, .same v (hρ v ?_)⟩⟩
        exact V.hasL_false.1 (hlo2 _ (fnd_mem h1) e1 _ zT15) v (List.mem_of_getElem? hv)
    · have hpl := (List.getElem?_eq_some_iff.1 hy).1
      have h2 := hobj p y hy
      cases hnn : (F.row y).nil with
      | true => exact .inl ⟨rfl, hs.nul _ _ h2 hnn⟩
      | false =>
        refine .inr ⟨rfl, _, by rw [if_neg zT15]; exact h2, hnn, rfl, rfl, fun j v hv => ⟨v, hv, .same v (hρ v ?_)⟩⟩
        exact V.hasL_false.1 (F.row_hasL y _) v (List.mem_of_getElem? hv)
    have h2 := hlitfnd _ _ hz
    cases hnn : (F.row x).nil with
    | true => exact .inl ⟨rfl, hs.nul _ _ h2 hnn⟩
    | false =>
      refine .inr ⟨rfl, _, by rw [if_pos rfl]; exact h2, hnn, rfl, rfl, fun j v hv => ⟨v, hv, .same v (hρ v ?_)⟩⟩
      exact V.hasL_false.1 (F.row_hasL x _) v (List.mem_of_getElem? hv)
  · intro j v hv
    exact ⟨v, hv, .same v (hρ v (V.low_has (b := base) zT15 v (by
      have : ∀ (l : List V), V.lowL base l = true → ∀ u ∈ l, u.low base = true := by
        intro l
        induction l with
        | nil => intro _ u hu; cases hu
        | cons y l ih =>
          intro hl u hu
          simp only [V.lowL, Bool.and_eq_true] at hl
          rcases List.mem_cons.1 hu with rfl | hu
          · exact hl.1
          exact ih hl.2 u hu
      exact this _ hK2 v (List.mem_of_getElem? hv))))⟩
  intro r r' row1 row2 h1 n1 h2 n2 e
  rcases hfo r row1 h1 with ⟨rfl, _⟩ | ⟨a1, a2, a3, _⟩ | ⟨p, y, ⟨rfl, hy, _⟩ | ⟨rfl, _⟩⟩ <;> rcases hfo r' row2 h2 with ⟨rfl, _⟩ | ⟨b1, b2, b3, _⟩ | ⟨p', y', ⟨rfl, hy', _⟩ | ⟨rfl, _⟩⟩ <;>
    (try have hpl := (List.getElem?_eq_some_iff.1 hy).1) <;> (try have hpl' := (List.getElem?_eq_some_iff.1 hy').1) <;> (try dsimp only at e) <;> (try split at e) <;> (try split at e) <;> omega
theorem AW.famPush {code : Code} (lits : List (Nat × Row)) (rb z : Nat) (x : β) {base : Nat} {L : List β} {row : Row} (hH : s.H = lits ++ F.objs base L) (hr : fnd lits rb = some row) (hn : row.nil = false) (hz : fnd lits z = some (F.row x)) (hc : row.cells = F.cells base L ++ ((F.pre x).map V.d ++ [.own z F.sz (F.it x).length (F.it x).isEmpty])) (hzr : z ≠ rb) (hlow : lits.all (fun x => decide (x.1 < base)) = true)
    (hlo : ∀ x ∈ lits, x.1 ≠ rb → V.hasL z x.2.cells = false) (hT : s.T.all (fun x => !x.2.has z) = true) (hK : V.hasL z s.K = false) (hlo2 : ∀ x ∈ lits, x.1 ≠ rb → ∀ r, base ≤ r → V.hasL r x.2.cells = false) (hT2 : s.T.all (fun x => x.2.low base) = true) (hK2 : V.lowL base s.K = true)
    (h : AW c code Q ⟨s.n, s.T, (rb, { row with cells := F.cells base (L ++ [x]) }) :: lits.filter (fun x => x.1 != z) ++ F.objs base (L ++ [x]), s.K⟩) : AW c code Q s := fun g a w hs =>
  let ⟨g', h'⟩ := Sim.famPush hs lits rb z x hH hr hn hz hc hzr hlow hlo hT hK hlo2 hT2 hK2
  h g' a w h'
end
theorem LH.self {n : Nat} {T : List (Nat × V)} {H : List (Nat × Row)} {K : List V} (hk : ∀ r row, fnd H r = some row → True) : ∀ {l : List (Nat × Row)}, (∀ i row, (i, row) ∈ l → fnd H i = some row) → LH ⟨n, T, H, K⟩ l
  | [], _ => trivial
  | (i, row) :: l, h => ⟨h i row zT16, LH.self hk fun j r hj => h j r (by simp [hj])⟩
theorem Fam.objs_mem {β : Type} {F : Fam β} : ∀ (l : List β) (k i : Nat) (row : Row), (i, row) ∈ F.objs k l → k ≤ i ∧ fnd (F.objs k l) i = some row
  | [], k, i, row, h => by simp [Fam.objs] at h
  | x :: l, k, i, row, h => by
    simp only [Fam.objs, List.mem_cons, Prod.mk.injEq] at h
    rcases h with ⟨rfl, rfl⟩ | h
    · exact ⟨Nat.le_refl _, by simp [Fam.objs, fnd]⟩
    obtain ⟨h1, h2⟩ := Fam.objs_mem l (k + 1) i row h
    refine ⟨by omega, ?_⟩
    rw [Fam.objs, fnd, if_neg zT11, h2]
/-- A state's growing slices are among another's. -/
theorem LH.fam {β : Type} {F : Fam β} {n base : Nat} {L : List β} {T : List (Nat × V)} {K : List V} : LH ⟨n, T, F.objs base L, K⟩ (F.objs base L) := LH.self (fun _ _ _ => trivial) fun i row h => (Fam.objs_mem L base i row h).2
theorem LH.skip {β : Type} {F : Fam β} {n base r : Nat} {L : List β} {row : Row} {T : List (Nat × V)} {H : List (Nat × Row)} {K : List V} (hr : r < base) (h : LH ⟨n, T, H, K⟩ (F.objs base L)) : LH ⟨n, T, (r, row) :: H, K⟩ (F.objs base L) := by
  refine LH.self (fun _ _ _ => trivial) fun i row' hm => ?_
  have h1 := (Fam.objs_mem L base i row' hm).1
  rw [fnd, if_neg zT11]
  have : ∀ (l : List (Nat × Row)), LH ⟨n, T, H, K⟩ l → ∀ i row, (i, row) ∈ l → fnd H i = some row := by
    intro l
    induction l with
    | nil => intro _ i row h; cases h
    | cons x l ih =>
      intro hl i row hm
      rcases List.mem_cons.1 hm with e | hm
      · subst e; exact hl.1
      exact ih hl.2 i row hm
  exact this _ h i row' hm
theorem flatMap_rep {α γ : Type} (n : Nat) (x : α) (f : α → List γ) : (List.replicate n x).flatMap f = (List.replicate n (f x)).flatten := by
  induction n with
  | zero => rfl
  | succ n ih => simp [List.replicate_succ, ih]
theorem low_ownV {β : Type} (F : Fam β) (b p : Nat) (x : β) : (F.ownV (b + p) x).low b = false := by simp [Fam.ownV, V.low]
theorem has_ownV {β : Type} (F : Fam β) (k r : Nat) (x : β) : (F.ownV k x).has r = (k == r) := rfl
theorem objs_clean_low {β : Type} (F : Fam β) {l : List β} {k r : Nat} (h : r < k) : (F.objs k l).all (fun x => x.1 != r && !V.hasL r x.2.cells) = true := Fam.objs_clean l k r h
theorem objs_filter_low {β : Type} (F : Fam β) {l : List β} {k r : Nat} (h : r < k) : (F.objs k l).filter (fun x => x.1 != r) = F.objs k l := Fam.objs_filter l k r h
theorem cells_hasL_low {β : Type} (F : Fam β) {l : List β} {k r : Nat} (h : r < k) : V.hasL r (F.cells k l) = false := Fam.cells_hasL l k r h
theorem nb1 {a b p : Nat} (h : a < b) : (a = b + p) = False := by simp; omega
theorem nb2 {a b p : Nat} (h : a < b) : (b + p = a) = False := by simp; omega
theorem nb3 {a b p : Nat} (h : a < b) : (a == b + p) = false := by simp; omega
theorem nb4 {a b p : Nat} (h : a < b) : (b + p == a) = false := by simp; omega
theorem hasL_frep {r n : Nat} {zs : List V} (h : V.hasL r zs = false) : V.hasL r (List.replicate n zs).flatten = false := by
  induction n with
  | zero => rfl
  | succ n ih => rw [List.replicate_succ, List.flatten_cons, hasL_append, h, ih]; rfl
/-- Blocks are as they were but those of e. -/
def BX (e : Nat → Prop) (N : Nat) (W w : World) : Prop := N ≤ w.heap.size ∧ ∀ k, k < N → ¬ e k → w.heap[k]? = W.heap[k]?
structure Ex (c : Cx) (g : Nat → Nat × Nat) (s : S) (r : Nat) (e : Nat → Prop) (w : World) : Prop where
  obj : ∀ k row, k ≠ r → fnd s.H k = some row → row.nil = false → ¬ e (g k).1
  quiet : ∀ k, qt c s.H g k → k < w.heap.size → ¬ e k
  own : ∀ row, fnd s.H r = some row → row.nil = false → e (g r).1
section
variable {c : Cx} {s : S} {o : Oper} {Q : Exit → S → Prop} {g : Nat → Nat × Nat} {a : Act} {w : World} {L : List Oper} {need : Nat → Bool} {l : List (Nat × Bool)} {i r : Nat} {e : Nat → Prop}
theorem BX.cell {N : Nat} {W w : World} {b k : Nat} {v : Value} (h : BX e N W w) (hb : b < N) (he : ¬ e b) (hv : W.cell? ⟨b, k, none⟩ = some v) : w.cell? ⟨b, k, none⟩ = some v := (World.cell?_of_block (w := W) (a := ⟨b, k, none⟩) (h.2 b hb he)).trans hv
/-- A read that does not look at object r. -/
def RX (c : Cx) (o : Oper) (s : S) (r : Nat) (v : V) : Prop := ∀ e g a w, Sim c g s a w → Ex c g s r e w → ∃ x, VRep w (qt c s.H g) g v x ∧ ∀ w', BX e w.heap.size w w' → (execOp a.eval o).run c.P w' = .ok (.value x) w'
theorem RP.rx {v : V} (h : RP c o s v) : RX c o s r v := fun e g a w hs _ => by
  obtain ⟨x, h1, h2⟩ := h g a w hs
  exact ⟨x, h1, fun w' _ => h2 w'⟩
theorem rx_load_ref {t : TypeId} {d : TypeDesc} {x : Operand} {r0 k : Nat} {row : Row} {v : V} (hu : c.P.underlying t = some d) (hd : isAggD d = false) (ho : o.op = .load t x) (hx : s.ev x = some (.ref r0 k)) (hr : fnd s.H r0 = some row) (hn : row.nil = false) (hv : row.cells[k]? = some v) (hne : r0 ≠ r) : RX c o s r v := fun e g a w hs he => by
  have h := hs.ev hx
  obtain ⟨arr, h1, _, h2⟩ := hs.obj r0 row hr hn
  obtain ⟨y, h3, h4⟩ := h2 k v hv
  refine ⟨y, h4, fun w' hb => ?_⟩
  have hlt : (g r0).1 < w.heap.size := (Array.getElem?_eq_some_iff.1 h1).1
  have hcell : w'.cell? ⟨(g r0).1, k, none⟩ = some y := hb.cell hlt (he.obj r0 row hne hr hn) ((cell_of_row w _ _ _ _ _ h1).trans h3)
  generalize hy : a.eval x = z at h
  cases h
  simp [execOp, ho, hy, Instr.loadAt, Instr.sureAddr, loadVar, run_isAgg hu, hd, hcell]
theorem rx_load_fam {β : Type} {F : Fam β} {t : TypeId} {d : TypeDesc} {x : Operand} {rb k p m base : Nat} {row : Row} {L : List β} {x0 : β} (hu : c.P.underlying t = some d) (hd : isAggD d = false) (ho : o.op = .load t x) (hx : s.ev x = some (.ref rb k)) (hr : fnd s.H rb = some row) (hn : row.nil = false) (hc : row.cells = F.cells base L) (hm : ∀ x, (F.pre x).length = m) (hk : k = p * (m + 1) + m) (hp : L[p]? = some x0) (hne : rb ≠ r) : RX c o s r (F.ownV (base + p) x0) :=
  rx_load_ref hu hd ho hx hr hn (by rw [hc, hk]; exact Fam.cells_own hm L base p x0 hp) hne
/-- First come the reads that do not look at r. -/
def AE1 (c : Cx) (ops : Array Oper) (Q : Exit → S → Prop) (need : Nat → Bool) (r : Nat) (l : List (Nat × Bool)) (s : S) : Prop := ∀ e g a w, Sim c g s a w → Ex c g s r e w → (∀ k, e k → k < w.heap.size) → ASeq c.P ops (QQ c Q) (BX e w.heap.size w) need l a w
/-- Then new memory, and r grows. -/
def AE2 (c : Cx) (ops : Array Oper) (Q : Exit → S → Prop) (need : Nat → Bool) (r : Nat) (l : List (Nat × Bool)) (s : S) : Prop := ∀ W e g a w, Sim c g s a w → Ex c g s r e w → BX e W.heap.size W w → (∀ k, e k → k < W.heap.size) → ASeq c.P ops (QQ c Q) (BX e W.heap.size W) need l a w
theorem Ex.put {d : Option Tmp} {v : V} (h : Ex c g s r e w) : Ex c g (s.put d v) r e w := by
  cases d with
  | none => exact h
  | some d => exact ⟨h.obj, h.quiet, h.own⟩
theorem BX.refl (w : World) : BX e w.heap.size w w := ⟨Nat.le_refl _, fun _ _ _ => rfl⟩
theorem AW.drawX {id : Nat} {l : List Oper} (r : Nat) (order : List (Nat × Bool)) (need : Nat → Bool) (N : Nat) (hm : c.P.follows .mixedOrders = true) (hsel : Region.noSelect l.toArray = true) (hlen : order.length = l.length)
    (hok : okS .any l.toArray need N order (Array.replicate l.length false) = true) (h : AE1 c l.toArray Q need r order s) : AW c (.region id l.toArray true) Q s := by
  intro g a w hs
  refine wp_region_any hm ?_
  have hs' : Sim c g s a w.drew := hs.move (Below.drew (Below.refl _ _))
  have hex : Ex c g s r (fun k => ∃ row, fnd s.H r = some row ∧ row.nil = false ∧ (g r).1 = k) w.drew := by
    refine ⟨fun k row hk h1 h2 h3 => ?_, fun k hk _ h3 => ?_, fun row h1 h2 => ⟨row, h1, h2, rfl⟩⟩
    · obtain ⟨row2, h4, h5, h6⟩ := h3
      exact hk (hs'.inj k r row row2 h1 h2 h4 h5 h6.symm)
    obtain ⟨row2, h4, h5, h6⟩ := h3
    exact hk.2 r row2 h4 h5 h6
  have hlt : ∀ k, (∃ row, fnd s.H r = some row ∧ row.nil = false ∧ (g r).1 = k) → k < w.drew.heap.size := by
    rintro k ⟨row, h1, h2, rfl⟩
    obtain ⟨arr, h3, _⟩ := hs'.obj r row h1 h2
    exact (Array.getElem?_eq_some_iff.1 h3).1
  have := any_of_anyN _ _ _ _ (anyN_of_ASeq (P := c.P) (Q := QQ c Q) (T := BX _ w.drew.heap.size w.drew) (need := need) (md := .any) hsel order (Array.replicate l.length false) a w.drew (by
    intro j oj _ hl
    rw [Array.getD_eq_getD_getElem?, Array.getElem?_replicate] at hl
    split at hl <;> simp at hl) hok (h _ g a _ hs' hex hlt))
  rw [hlen] at this
  simpa using this
theorem AE1.rx {v : V} (hi : L[i]? = some o) (hg : o.guard = none) (hd : dok s o = true) (hp : noP Q) (h : RX c o s r v) (hN : AE1 c L.toArray Q need r l (s.put o.dst v)) : AE1 c L.toArray Q need r ((i, true) :: l) s := fun e g a w hs he hl => by
  obtain ⟨x, h1, h2⟩ := h e g a w hs he
  exact ⟨o, x, by simpa using hi, .inl ⟨by simp [Region.wanted, hg], h2⟩, BX.refl _, QQ_noP hp _ _, hN e g _ w (hs.put o.dst (dok_spec hd) h1) he.put hl⟩
theorem AE1.rp {v : V} (hi : L[i]? = some o) (hg : o.guard = none) (hd : dok s o = true) (hp : noP Q) (h : RP c o s v) (hN : AE1 c L.toArray Q need r l (s.put o.dst v)) : AE1 c L.toArray Q need r ((i, true) :: l) s := AE1.rx hi hg hd hp h.rx hN
theorem AE1.go (h : AE2 c L.toArray Q need r l s) : AE1 c L.toArray Q need r l s := fun e g a w hs he hl => h w e g a w hs he (BX.refl _) hl
theorem AE2.sm {r' : Nat} {row : Row} {v : V} (hi : L[i]? = some o) (hg : o.guard = none) (h : StepG c o s r' (fun s' => s' = s.newObj r' row o.dst v)) (hne : r' ≠ r) (hN : AE2 c L.toArray Q need r l (s.newObj r' row o.dst v)) : AE2 c L.toArray Q need r ((i, false) :: l) s := fun W e g a w hs he hb hl =>
  wpOp_of (by simpa using hi) hg (h g a w hs _ _ fun g' s' a' w' h1 h2 h3 h4 h5 => by
    subst h1
    have hsz := hb.1
    have hbx : BX e W.heap.size W w' := ⟨Nat.le_trans hb.1 h3.size, fun k hk hn => (h3.block k zT15).trans (hb.2 k hk hn)⟩
    refine ⟨fun _ => hbx, hN W e g' a' w' h2 (Ex.put (s := { s with H := (r', row) :: s.H }) ⟨fun k row' hk h6 h7 => ?_, fun k hk hkl => ?_, fun row' h6 h7 => ?_⟩) hbx hl⟩
    · simp only [fnd] at h6
      by_cases hkr : r' = k
      · subst hkr
        intro h8
        have := hl _ h8
        omega
      rw [if_neg (by simpa using hkr)] at h6
      rw [h4 k (Ne.symm hkr)]
      exact he.obj k row' hk h6 h7
    · intro h8
      have h9 := hl k h8
      refine he.quiet k ⟨hk.1, fun r2 row2 h10 h11 h12 => ?_⟩ zT15 h8
      by_cases hr2 : r2 = r'
      · subst hr2
        -- an old object of that name: it would lie in the new one's place
        have : fnd s.H r2 = none ∨ ∃ x, fnd s.H r2 = some x := by cases fnd s.H r2 <;> simp
        have hne2 : e (g r2).1 := by rw [h12]; exact h8
        exact he.obj r2 row2 hne h10 h11 hne2
      refine hk.2 r2 row2 ?_ h11 (by rw [h4 r2 hr2]; exact h12)
      have e1 : (S.newObj s r' row o.dst v).H = (r', row) :: s.H := by cases o.dst <;> rfl
      simp only [fnd]
      rw [if_neg (by simpa using Ne.symm hr2)]
      exact h10
    simp only [fnd] at h6
    rw [if_neg (by simpa using hne)] at h6
    rw [h4 r (Ne.symm hne)]
    exact he.own row' h6 h7)
theorem AE2.st {X : S} (hi : L[i]? = some o) (hg : o.guard = none) (h : StepX c o s r (fun s' => s' = X)) (hN : AD3 c L.toArray Q need l X) : AE2 c L.toArray Q need r ((i, false) :: l) s := fun W e g a w hs he hb hl =>
  wpOp_of (by simpa using hi) hg (h g a w hs _ _ fun g' s' a' w' h1 h2 h3 => by
    subst h1
    have hsz := hb.1
    refine ⟨fun _ => ⟨Nat.le_trans hb.1 h3.1, fun k hk hn => (h3.2 k zT15 fun row h4 h5 h6 => ?_).trans (hb.2 k hk hn)⟩, hN _ g' a' w' h2⟩
    subst h6
    exact hn (he.own row h4 h5))
end
/-- The objects H, new since N, among blocks that are quiet as q says. -/
structure Objs (w : World) (q : Nat → Prop) (N : Nat) (g : Nat → Nat × Nat) (H : List (Nat × Row)) : Prop where
  nul : ∀ r row, fnd H r = some row → row.nil = true → row.cells = []
  obj : ∀ r row, fnd H r = some row → row.nil = false → ∃ arr : Array Value, w.heap[(g r).1]? = some (.cells arr row.ty (0, 0)) ∧ (row.sz ≠ 0 → arr.size = (g r).2 * row.sz) ∧ ∀ (j : Nat) (v : V), row.cells[j]? = some v → ∃ x, arr[j]? = some x ∧ VRep w (fun b => q b ∧ ∀ r row, fnd H r = some row → row.nil = false → (g r).1 ≠ b) g v x
  inj : ∀ r r' row row', fnd H r = some row → row.nil = false → fnd H r' = some row' → row'.nil = false → (g r).1 = (g r').1 → r = r'
  new : ∀ r row, fnd H r = some row → row.nil = false → N ≤ (g r).1
  closed : ∀ r row k, fnd H r = some row → V.hasL k row.cells = true → ∃ row', (k, row') ∈ H
def FnO (P : Program) (f : FuncId) (args : List V) (post : V → List (Nat × Row) → Prop) : Prop := ∀ (w : World) (out : Nat → Prop) (g : Nat → Nat × Nat) (xs : List Value), (∀ b, out b → b < w.heap.size) → VReps w (fun b => ¬ out b) g args xs →
  Calls P f xs.toArray w fun e w' => ∃ v x g' H, e = .returned x ∧ post v H ∧ (∀ k, v.has k = true → ∃ row', (k, row') ∈ H) ∧ Objs w' (fun b => ¬ out b) w.heap.size g' H ∧ VRep w' (fun b => ¬ out b ∧ ∀ r row, fnd H r = some row → row.nil = false → (g' r).1 ≠ b) g' v x ∧ Below w.heap.size w w'
def QFO (P : Program) (rs : List ResultVar) (post : V → List (Nat × Row) → Prop) : Exit → S → Prop
  | .normal, s => ∃ vs H, resL P s rs vs ∧ LH s H ∧ post (tupOf vs) H ∧ (∀ k, (tupOf vs).has k = true → ∃ row', (k, row') ∈ H) ∧ ∀ r row k, fnd H r = some row → V.hasL k row.cells = true → ∃ row', (k, row') ∈ H
  | .ret, s => ∃ vs H, resL P s rs vs ∧ LH s H ∧ post (tupOf vs) H ∧ (∀ k, (tupOf vs).has k = true → ∃ row', (k, row') ∈ H) ∧ ∀ r row k, fnd H r = some row → V.hasL k row.cells = true → ∃ row', (k, row') ∈ H
  | _, _ => False
theorem FnO.intro {P : Program} {f : FuncId} {fn : Func} {code : Code} {n : Nat} {rs : List ResultVar} {args : List V} {post : V → List (Nat × Row) → Prop} (hf : Is P f fn code n rs) (hp : ∀ v ∈ args, v.pure) (hn : args.length ≤ n)
    (h : ∀ w0 out, AW ⟨P, w0, out, [], []⟩ code (QFO P rs post) ⟨n, enum 0 args, [], []⟩) : FnO P f args post := by
  intro w out g xs hout hx
  refine calls_of_wp hf.func hf.body ?_
  have hs : Sim ⟨P, w, out, [], []⟩ g ⟨n, enum 0 args, [], []⟩ { tmps := xs.toArray ++ Array.replicate (fn.ntmps - xs.toArray.size) undef, defers := [] } w := by
    refine ⟨?_, rfl, ?_, by simp [fnd], by simp [fnd], by simp, by simp [fnd], by simp [fnd], hout, Below.refl _ _⟩
    · simp [hf.ntmps, ← hx.1]; omega
    intro i v hv
    obtain ⟨_, h2⟩ := fnd_enum args 0 i v hv
    simp only [Nat.sub_zero] at h2
    have hi : i < xs.length := by rw [← hx.1]; exact (List.getElem?_eq_some_iff.1 h2).1
    refine ⟨xs[i], ?_, ?_⟩
    · rw [hf.ntmps]
      exact enter_get (List.getElem?_eq_getElem hi) (by rw [← hx.1]; exact hn)
    refine (hx.2 i v _ h2 (List.getElem?_eq_getElem hi)).mono Cells.rfl (fun b hb _ => ⟨hb, by simp [fnd]⟩) (fun r _ => rfl)
  refine wp_mono (h w out g _ w hs) fun e a' w' hq => ?_
  obtain ⟨g', s', h1, h2⟩ := hq
  have fin : (∃ vs H, resL P s' rs vs ∧ LH s' H ∧ post (tupOf vs) H ∧ (∀ k, (tupOf vs).has k = true → ∃ row', (k, row') ∈ H) ∧ ∀ r row k, fnd H r = some row → V.hasL k row.cells = true → ∃ row', (k, row') ∈ H) →
      a'.defers = [] ∧ ∃ v, (results fn a'.tmps).run P w' = .ok v w' ∧ ∃ v_1 x g' H, Ending.returned v = .returned x ∧ post v_1 H ∧ (∀ k, v_1.has k = true → ∃ row', (k, row') ∈ H) ∧ Objs w' (fun b => ¬ out b) w.heap.size g' H ∧ VRep w' (fun b => ¬ out b ∧ ∀ r row, fnd H r = some row → row.nil = false → (g' r).1 ≠ b) g' v_1 x ∧ Below w.heap.size w w' := by
    rintro ⟨vs, H, k1, k2, k3, k4, k5⟩
    obtain ⟨x, k6, k7⟩ := run_results (c := ⟨P, w, out, [], []⟩) hf.results h2 k1
    have hq : ∀ b, qt ⟨P, w, out, [], []⟩ s'.H g' b → b < w'.heap.size → ¬ out b ∧ ∀ r row, fnd H r = some row → row.nil = false → (g' r).1 ≠ b := fun b hb _ => ⟨hb.1, fun r row hr hn => hb.2 r row (k2.get r row hr) hn⟩
    have hm : ∀ {v x}, VRep w' (qt ⟨P, w, out, [], []⟩ s'.H g') g' v x → VRep w' (fun b => ¬ out b ∧ ∀ r row, fnd H r = some row → row.nil = false → (g' r).1 ≠ b) g' v x := fun hv => hv.mono Cells.rfl hq (fun _ _ => rfl)
    refine ⟨h2.defers, x, k7, _, x, g', H, rfl, k3, k4, ⟨fun r row hr hn => h2.nul r row (k2.get r row hr) hn, fun r row hr hn => ?_, fun r r' row row' a1 a2 a3 a4 a5 => h2.inj r r' row row' (k2.get r row a1) a2 (k2.get r' row' a3) a4 a5, fun r row hr hn => h2.base r row (k2.get r row hr) hn, k5⟩, hm k6, h2.below⟩
    obtain ⟨arr, a1, a2, a3⟩ := h2.obj r row (k2.get r row hr) hn
    refine ⟨arr, a1, a2, fun j v hv => ?_⟩
    obtain ⟨y, a4, a5⟩ := a3 j v hv
    exact ⟨y, a4, hm a5⟩
  cases e with
  | normal => exact fin h1
  | ret => exact fin h1
  | _ => exact h1.elim
section
variable {c : Cx} {s : S} {o : Oper}
/-- A call of a function whose result comes with objects. -/
theorem sm_callo {fx : Operand} {xs : Array Operand} {ts : Array TypeId} {f : FuncId} {fn : Func} {code : Code} {n : Nat} {rs : List ResultVar} {args : List V} {post : V → List (Nat × Row) → Prop} (hfn : FnO c.P f args post) (hf : Is c.P f fn code n rs) (ho : o.op = .call { callee := .value fx, args := xs, argTypes := ts })
    (hfx : s.ev fx = some (.fn f [])) (hargs : xs.toList.map s.ev = args.map some) (hd : dok s o = true) (hfr : ∀ v H, post v H → H.all (fun x => s.clean x.1) = true) : StepM c o s (fun s' => ∃ v H, post v H ∧ s' = S.put ⟨s.n, s.T, H ++ s.H, s.K⟩ o.dst v) := by
  intro g a w hs K Q hK
  have hfx' : a.eval fx = .func (.func f) #[] ([] : List Value).toArray := by
    have h := hs.ev hfx
    generalize a.eval fx = u at h
    cases h with
    | fn _ _ cs hl _ =>
      obtain rfl : cs = [] := by cases cs with | nil => rfl | cons => simp at hl
      rfl
  have hx : VReps w (fun b => ¬ ¬ qt c s.H g b) g args (xs.toList.map a.eval) := by
    refine ⟨by simpa using (congrArg List.length hargs).symm, fun j u y hu hy => ?_⟩
    have h1 := congrArg (fun l => l[j]?) hargs
    simp only [List.getElem?_map, hu, Option.map_some] at h1 hy
    cases h2 : xs.toList[j]? with
    | none => rw [h2] at h1; cases h1
    | some p =>
      rw [h2] at h1 hy
      simp only [Option.map_some, Option.some.injEq] at h1 hy
      subst hy
      exact (hs.ev h1).mono Cells.rfl (fun b hb _ => not_not_intro hb) (fun r _ => rfl)
  unfold Oper.wp
  rw [exec_call (caps := []) hf ho hfx']
  simp only [Oper.upon, List.append_nil]
  refine (hfn w (fun b => ¬ qt c s.H g b) g _ ?_ hx).mono ?_
  · intro b hb
    rcases Classical.em (c.out b) with h | h
    · exact Nat.lt_of_lt_of_le (hs.low b h) hs.below.size
    rcases Classical.em (∃ r row, fnd s.H r = some row ∧ row.nil = false ∧ (g r).1 = b) with ⟨r, row, h1, h2, rfl⟩ | h'
    · obtain ⟨arr, h3, _⟩ := hs.obj r row h1 h2
      exact (Array.getElem?_eq_some_iff.1 h3).1
    exact absurd ⟨h, fun r row h1 h2 h3 => h' ⟨r, row, h1, h2, h3⟩⟩ hb
  rintro e w' ⟨v, x, g', H, rfl, h1, hcl, hO, h3, h4⟩
  have hfresh : ∀ k row, (k, row) ∈ H → s.clean k = true := fun k row hk => List.all_eq_true.1 (hfr v H h1) _ hk
  classical
  let G : Nat → Nat × Nat := fun k => if (fnd H k).isSome then g' k else g k
  have hG1 : ∀ k row, fnd H k = some row → G k = g' k := fun k row hk => by simp [G, hk]
  have hmem : ∀ k row, (k, row) ∈ H → ∃ row', fnd H k = some row' := by
    intro k row hk
    have : ∀ (l : List (Nat × Row)), (k, row) ∈ l → ∃ row', fnd l k = some row' := by
      intro l
      induction l with
      | nil => intro h; cases h
      | cons y l ih =>
        intro h
        simp only [fnd]
        split
        · exact ⟨_, rfl⟩
        rename_i hne
        rcases List.mem_cons.1 h with rfl | h
        · simp at hne
        exact ih h
    exact this H hk
  have hG2 : ∀ k, (∃ row, (k, row) ∈ H) → G k = g' k := fun k ⟨row, hk⟩ => by obtain ⟨row', h⟩ := hmem k row hk; exact hG1 k row' h
  have hG3 : ∀ k row, fnd s.H k = some row → G k = g k := by
    intro k row hk
    have : fnd H k = none := by
      cases hh : fnd H k with
      | none => rfl
      | some row' => exact absurd rfl (S.clean_obj (hfresh k row' (fnd_mem hh)) hk).1
    simp [G, this]
  have hG4 : ∀ u : V, (∀ k row, (k, row) ∈ H → u.has k = false) → ∀ k, u.has k = true → G k = g k := by
    intro u hu k hk
    have : fnd H k = none := by
      cases hh : fnd H k with
      | none => rfl
      | some row' => have := hu k row' (fnd_mem hh); rw [hk] at this; cases this
    simp [G, this]
  have hfn : ∀ k row, fnd (H ++ s.H) k = some row → fnd H k = some row ∨ fnd H k = none ∧ fnd s.H k = some row := by
    intro k row hk
    have happ : ∀ (l l' : List (Nat × Row)) (i : Nat), fnd (l ++ l') i = match fnd l i with | some v => some v | none => fnd l' i := by
      intro l l' i
      induction l with
      | nil => simp [fnd]
      | cons y l ih => simp only [List.cons_append, fnd]; split; rfl; exact ih
    rw [happ] at hk
    cases hh : fnd H k with
    | some row' => rw [hh] at hk; exact .inl hk
    | none => rw [hh] at hk; exact .inr ⟨rfl, hk⟩
  have hlt : ∀ {b o}, w.heap[b]? = some o → b < w.heap.size := fun h => (Array.getElem?_eq_some_iff.1 h).1
  have hq1 : ∀ b, qt c s.H g b → b < w.heap.size → qt c (H ++ s.H) G b := by
    intro b hb hbl
    refine ⟨hb.1, fun k row hk hn => ?_⟩
    rcases hfn k row hk with h | ⟨_, h⟩
    · rw [hG1 k row h]
      have := hO.new k row h hn
      omega
    rw [hG3 k row h]
    exact hb.2 k row h hn
  have hq2 : ∀ b, (¬ ¬ qt c s.H g b ∧ ∀ r row, fnd H r = some row → row.nil = false → (g' r).1 ≠ b) → b < w'.heap.size → qt c (H ++ s.H) G b := by
    intro b hb _
    have hb1 := Classical.not_not.1 hb.1
    refine ⟨hb1.1, fun k row hk hn => ?_⟩
    rcases hfn k row hk with h | ⟨_, h⟩
    · rw [hG1 k row h]
      exact hb.2 k row h hn
    rw [hG3 k row h]
    exact hb1.2 k row h hn
  have hcells : Cells w w' (qt c s.H g) := ⟨h4.size, fun b o u _ h1 h2 => (h4.cell (p := ⟨b, o, none⟩) h1).trans h2, Below.maps h4⟩
  have hold : ∀ {u y}, (∀ k row, (k, row) ∈ H → V.has k u = false) → VRep w (qt c s.H g) g u y → VRep w' (qt c (H ++ s.H) G) G u y := fun hu hy => hy.mono hcells hq1 (hG4 _ hu)
  have hnew : ∀ {u y}, (∀ k, V.has k u = true → ∃ row, (k, row) ∈ H) → VRep w' (fun b => ¬ ¬ qt c s.H g b ∧ ∀ r row, fnd H r = some row → row.nil = false → (g' r).1 ≠ b) g' u y → VRep w' (qt c (H ++ s.H) G) G u y := fun hu hy =>
    hy.mono Cells.rfl hq2 (fun k hk => hG2 k (hu k hk))
  have hsim : Sim c G ⟨s.n, s.T, H ++ s.H, s.K⟩ a w' := by
    refine ⟨hs.size, hs.defers, ?_, ?_, ?_, ?_, ?_, ?_, hs.low, hs.below.trans (h4.mono hs.below.size)⟩
    · intro i u hu
      obtain ⟨y, a1, a2⟩ := hs.tmp i u hu
      exact ⟨y, a1, hold (fun k row hk => S.clean_tmp (hfresh k row hk) hu) a2⟩
    · intro k row hk hn
      rcases hfn k row hk with h | ⟨_, h⟩
      · exact hO.nul k row h hn
      exact hs.nul k row h hn
    · intro k row hk hn
      rcases hfn k row hk with h | ⟨_, h⟩
      · obtain ⟨arr, a1, a2, a3⟩ := hO.obj k row h hn
        refine ⟨arr, by rw [hG1 k row h]; exact a1, by rw [hG1 k row h]; exact a2, fun j u hu => ?_⟩
        obtain ⟨y, a4, a5⟩ := a3 j u hu
        refine ⟨y, a4, hnew (fun k' hk' => ?_) a5⟩
        refine hO.closed k row k' h ?_
        cases hh : V.hasL k' row.cells with
        | true => rfl
        | false => have := V.hasL_false.1 hh u (List.mem_of_getElem? hu); rw [hk'] at this; cases this
      obtain ⟨arr, a1, a2, a3⟩ := hs.obj k row h hn
      refine ⟨arr, by rw [hG3 k row h]; exact (h4.block _ (hlt a1)).trans a1, by rw [hG3 k row h]; exact a2, fun j u hu => ?_⟩
      obtain ⟨y, a4, a5⟩ := a3 j u hu
      exact ⟨y, a4, hold (fun k' row' hk' => (S.clean_obj (hfresh k' row' hk') h).2 u (List.mem_of_getElem? hu)) a5⟩
    · intro j u y a1 a2
      exact hold (fun k row hk => S.clean_keep (hfresh k row hk) a1) (hs.keep j u y a1 a2)
    · intro k k' row row' b1 n1 b2 n2 b3
      rcases hfn k row b1 with c1 | ⟨_, c1⟩ <;> rcases hfn k' row' b2 with c2 | ⟨_, c2⟩
      · rw [hG1 k row c1, hG1 k' row' c2] at b3
        exact hO.inj k k' row row' c1 n1 c2 n2 b3
      · rw [hG1 k row c1, hG3 k' row' c2] at b3
        have d1 := hO.new k row c1 n1
        obtain ⟨arr, d2, _⟩ := hs.obj k' row' c2 n2
        have := hlt d2
        omega
      · rw [hG3 k row c1, hG1 k' row' c2] at b3
        have d1 := hO.new k' row' c2 n2
        obtain ⟨arr, d2, _⟩ := hs.obj k row c1 n1
        have := hlt d2
        omega
      rw [hG3 k row c1, hG3 k' row' c2] at b3
      exact hs.inj k k' row row' c1 n1 c2 n2 b3
    intro k row b1 n1
    rcases hfn k row b1 with c1 | ⟨_, c1⟩
    · rw [hG1 k row c1]
      have := hO.new k row c1 n1
      have := hs.below.size
      omega
    rw [hG3 k row c1]
    exact hs.base k row c1 n1
  refine hK G _ _ _ ⟨v, H, h1, rfl⟩ (hsim.put o.dst (dok_spec (s := s) hd) (hnew hcl h3)) h4
theorem AL.callo {Q : Exit → S → Prop} {ops : Array Oper} {rest : List Oper} {post : V → List (Nat × Row) → Prop} (hg : o.guard = none) (h : StepM c o s (fun s' => ∃ v H, post v H ∧ s' = S.put ⟨s.n, s.T, H ++ s.H, s.K⟩ o.dst v)) (hN : ∀ v H, post v H → AL c ops rest Q (S.put ⟨s.n, s.T, H ++ s.H, s.K⟩ o.dst v)) : AL c ops (o :: rest) Q s :=
  AL.stepM hg fun g a w hs K Q' hK => h g a w hs K Q' fun g' s' a' w' ⟨v, H, h1, e⟩ h3 h4 => hK g' s' a' w' (by subst e; exact hN v H h1) h3 h4
end
theorem FnO.mach {P : Program} {f : FuncId} {args : List V} {post : V → List (Nat × Row) → Prop} (m : Mach) (j : Nat) (hj : args[j]? = some (mV m)) (h : m.states.length ≤ 4398046511104 → (∀ x ∈ m.states, x.arcs.length ≤ 4398046511104) → FnO P f args post) : FnO P f args post := by
  intro w out g xs ho hx
  have hlt : j < xs.length := by rw [← hx.1]; exact (List.getElem?_eq_some_iff.1 hj).1
  have hv := hx.2 j _ _ hj (List.getElem?_eq_getElem hlt)
  generalize xs[j] = y at hv
  cases hv with
  | agg _ cs hl hh =>
    have hc : 1 < cs.length := by simp at hl; omega
    have h1 := hh 1 _ cs[1] rfl (List.getElem?_eq_getElem hc)
    cases h1 with
    | d _ _ h2 =>
      have h3 := h2.bound
      simp only [List.length_map] at h3
      refine h zT15 (fun x hx => ?_) w out g xs ho hx
      obtain ⟨i, hi⟩ := List.getElem?_of_mem hx
      obtain ⟨z, h4⟩ := h2.row (i := i) (j := 1) (row := stD x) (by simp [hi]) rfl
      have h5 := h4.bound
      simp only [List.length_map] at h5
      omega
section
variable {c : Cx} {s : S} {o : Oper} {α : Type}
end
section
variable {c : Cx} {s : S} {o : Oper} {Q : Exit → S → Prop}
/-- Nothing is appended. -/
theorem rp_append_nil {t e : TypeId} {x y : Operand} {r sz bt n : Nat} {z : Value} {f : Bool} (hu : c.P.underlying t = some (.slice e)) (hi : Inf c.P e sz bt z)
    (ho : o.op = .call { callee := .builtin .append, args := #[x, y], argTypes := #[t, t] }) (hx : s.ev x = some (.own r sz n f)) (hy : s.ev y = some .nil) : RP c o s (.own r sz n f) := fun g a w hs => by
  have h := hs.ev hx
  have hyv := VRep.p_eq (hs.ev hy)
  obtain ⟨i, hi1, hi2, hi3, hi4⟩ := hi.out
  refine ⟨a.eval x, h, fun w' => ?_⟩
  generalize hxx : a.eval x = u at h
  cases h with
  | own _ _ _ hn hcap =>
    simp only [execOp, ho, resolve, invoke, builtin, Sem.run_bind, Sem.run_pure, Result.andThen_ok, List.map_toArray, List.map_cons, List.map_nil, hxx, hyv]
    rw [run_append_nothing w' t t o.type e i hu hi1 _ n (g r).2 hn _ ⟨.inl ⟨e, hu⟩, fun _ => rfl, by simp [Builtin.firstCells, Sem.run], by simp [Builtin.firstCells, Sem.run], by simp, by simp⟩]
    rfl
  | ownNil =>
    simp only [execOp, ho, resolve, invoke, builtin, Sem.run_bind, Sem.run_pure, Result.andThen_ok, List.map_toArray, List.map_cons, List.map_nil, hxx, hyv]
    rw [run_append_nothing w' t t o.type e i hu hi1 none 0 0 (Nat.le_refl _) _ ⟨.inl ⟨e, hu⟩, fun _ => rfl, by simp [Builtin.firstCells, Sem.run], by simp [Builtin.firstCells, Sem.run], by simp, by simp⟩]
    rfl
/-- An array of parts. -/
theorem rp_build_arr {t e : TypeId} {len esz ebt : Nat} {ez : Value} {ps : Array (Nat × Operand)} {sz bt : Nat} {z : Value} {vs : List (Nat × V)} {zs l : List V} (hu : c.P.underlying t = some (.array len e)) (hie : Inf c.P e esz ebt ez) (hi : Inf c.P t sz bt z) (ho : o.op = .build t ps)
    (hv : ps.toList.map (fun x => (x.1, s.ev x.2)) = vs.map (fun x => (x.1, some x.2))) (hzs : z.cells.toList.map (fun y => V.d (.p y)) = zs) (hf : fillV (fun i => some (i * esz, esz)) zs vs = some l) : RP c o s (.agg l) := fun g a w hs => by
  subst hzs
  obtain ⟨h1, h2⟩ := parts_rep hs hv
  obtain ⟨arr, h3, h4, h5⟩ := fill_rep (w := w) (q := qt c s.H g) (g := g) (place := fun i => some (i * esz, esz)) vs (ps.toList.map fun x => (x.1, a.eval x.2)) _ z.cells l hf h1 h2 zT16 (zero_rep z)
  refine ⟨.agg arr, ?_, fun w' => ?_⟩
  · have := VRep.agg (w := w) (q := qt c s.H g) (g := g) l arr.toList (by simpa using h4) (fun j u y hu hy => h5 j u y hu (by simpa using hy))
    simpa using this
  obtain ⟨i, hi1, hi2, hi3, hi4⟩ := hi.out
  obtain ⟨ie, he1, he2, he3, he4⟩ := hie.out
  have hb : c.P.built t (ps.map fun (i, x) => (i, a.eval x)).toList = some arr := by
    simp only [Program.built, hi1, hu, hi4, he1, he2]
    rw [← h3]
    simp
  simp only [execOp, ho, Sem.run_bind, run_build w' t _ arr hb, Result.andThen_ok]
  rfl
end
section
variable {c : Cx} {s : S} {o : Oper} {Q : Exit → S → Prop} {L : List Oper} {need : Nat → Bool} {l : List (Nat × Bool)} {i r : Nat}
/-- The guard's own operation was passed over: so is this one. -/
def und (ops : Array Oper) (s : S) (j : Nat) : Prop := ∃ d, (ops[j]?).bind (·.dst) = some d ∧ fnd s.T d = some (.d (.p undef))
theorem und_spec {ops : Array Oper} {j : Nat} {g : Nat → Nat × Nat} {a : Act} {w : World} (h : und ops s j) (hs : Sim c g s a w) : yielded ops a.tmps j = none := by
  obtain ⟨d, h1, h2⟩ := h
  obtain ⟨x, h3, h4⟩ := hs.tmp d _ h2
  have := VRep.p_eq h4
  subst this
  simp [yielded, h1, h3, undef]
theorem AL.noV {ops : Array Oper} {rest : List Oper} {j : Nat} {b b' : Bool} (hg : o.guard = some (j, b)) (hy : yld ops s j = some b') (hb : (b' == b) = false) (hd : dok s o = true) (h : AL c ops rest Q (s.put o.dst (.d (.p undef)))) : AL c ops (o :: rest) Q s := fun g a w hs =>
  wpList_step fun K hK => by
    have hw : ¬ Region.wanted o (yielded ops a.tmps) = true := by
      simp only [Region.wanted, hg, yld_spec hy hs]
      simpa using hb
    rw [if_neg hw]
    exact hK _ _ (h g _ w (hs.put o.dst (dok_spec hd) (.d _ _ (.p _))))
theorem AL.noU {ops : Array Oper} {rest : List Oper} {j : Nat} {b : Bool} (hg : o.guard = some (j, b)) (hy : und ops s j) (hd : dok s o = true) (h : AL c ops rest Q (s.put o.dst (.d (.p undef)))) : AL c ops (o :: rest) Q s := fun g a w hs =>
  wpList_step fun K hK => by
    have hw : ¬ Region.wanted o (yielded ops a.tmps) = true := by
      simp only [Region.wanted, hg, und_spec hy hs]
      simp
    rw [if_neg hw]
    exact hK _ _ (h g _ w (hs.put o.dst (dok_spec hd) (.d _ _ (.p _))))
theorem AD1.noV {j : Nat} {b b' : Bool} (hi : L[i]? = some o) (hg : o.guard = some (j, b)) (hy : yld L.toArray s j = some b') (hb : (b' == b) = false) (hd : dok s o = true) (hp : noP Q) (hN : AD1 c L.toArray Q need l (s.put o.dst (.d (.p undef)))) : AD1 c L.toArray Q need ((i, true) :: l) s := fun g a w hs =>
  ⟨o, undef, by simpa using hi, .inr ⟨by simp only [Region.wanted, hg, yld_spec hy hs]; simpa using hb, rfl⟩, Below.refl _ _, QQ_noP hp _ _, hN g _ w (hs.put o.dst (dok_spec hd) (.d _ _ (.p _)))⟩
theorem run_equal_ptr {P : Program} {t e : TypeId} (hu : P.underlying t = some (.pointer e)) (a : Option Addr) (w : World) : (Op.equal t (.pointer a) (.pointer none)).run P w = .ok a.isNone w := by
  have h : ∀ d : Nat, (Op.equalIn (d + 1) t (.pointer a) (.pointer none)).run P w = .ok a.isNone w := fun d => by
    cases a <;> simp [Op.equalIn, run_underlying hu]
  exact h 9999
theorem rp_ptr {t t' e : TypeId} {op : BinOp} {x y : Operand} {v : V} {b : Bool} (hop : op = .eql ∨ op = .neq) (hu : c.P.underlying t = some (.pointer e)) (ho : o.op = .binOp op t x y t') (hx : s.ev x = some v) (hy : s.ev y = some (.d (.p (.pointer none)))) (hv : ∀ w q g z, VRep w q g v z → ∃ a, z = .pointer a ∧ a.isNone = b) : RP c o s (.b (if op = .eql then b else !b)) := fun g a w hs => by
  obtain ⟨p, hp1, hp2⟩ := hv _ _ _ _ (hs.ev hx)
  refine ⟨.bool (if op = .eql then b else !b), .d _ _ (.p _), fun w' => ?_⟩
  have h := run_equal_ptr hu p w'
  rcases hop with rfl | rfl <;> simp [execOp, ho, hp1, VRep.p_eq (hs.ev hy), eqGuard, binOp, h, hp2]
end
section
variable {c : Cx} {s : S} {o : Oper}
variable {Q : Exit → S → Prop} {L : List Oper} {ops : Array Oper} {need : Nat → Bool} {l : List (Nat × Bool)} {i : Nat} {O : List Nat}
theorem not_wanted {j : Nat} {b b' : Bool} (hg : o.guard = some (j, b)) (hy : yld L.toArray s j = some b') (hb' : (b' == b) = false) : ∀ g a w, Sim c g s a w → Region.wanted o (yielded L.toArray a.tmps) = false := fun g a w hs => by
  simp only [Region.wanted, hg, yld_spec hy hs]; simpa using hb'
end
section
variable {P : Program} {ops : Array Oper} {Q : Exit → Act → World → Prop} {md : Region.Mode} {T : World → Prop} {need : Nat → Bool}
end
section
variable {c : Cx} {s : S} {Q : Exit → S → Prop} {ops : Array Oper} {L : List Oper} {need : Nat → Bool} {r1 r2 : List (Nat × Bool)} {l : List Nat} {i : Nat} {o : Oper}
/-- A list without what is shadowed. -/
def ddL {α : Type} : List Nat → List (Nat × α) → List (Nat × α)
  | _, [] => []
  | seen, (k, v) :: l => if seen.contains k then ddL seen l else (k, v) :: ddL (k :: seen) l
theorem ddL_get {α : Type} : ∀ (l : List (Nat × α)) (seen : List Nat) (i : Nat) (v : α), fnd (ddL seen l) i = some v → i ∉ seen ∧ fnd l i = some v
  | [], seen, i, v, h => by simp [ddL, fnd] at h
  | (k, u) :: l, seen, i, v, h => by
    simp only [ddL] at h
    split at h
    · rename_i hk
      obtain ⟨h1, h2⟩ := ddL_get l seen i v h
      refine ⟨h1, ?_⟩
      have : k ≠ i := by rintro rfl; exact h1 (by simpa using hk)
      simpa [fnd, this] using h2
    rename_i hk
    simp only [fnd] at h ⊢
    split at h
    · rename_i e
      simp only [beq_iff_eq] at e
      subst e
      exact ⟨by simpa using hk, by simpa using h⟩
    rename_i e
    obtain ⟨h1, h2⟩ := ddL_get l (k :: seen) i v h
    rw [if_neg e]
    exact ⟨fun hm => h1 (List.mem_cons_of_mem _ hm), h2⟩
def S.dd (s : S) : S := ⟨s.n, ddL [] s.T, ddL [] s.H, s.K⟩
theorem Less.dd (s : S) : Less s.dd s := ⟨rfl, fun i v h => ⟨v, (ddL_get _ _ _ _ h).2, .refl _⟩, fun r row h => ⟨row, (ddL_get _ _ _ _ h).2, rfl, rfl, rfl, fun j v hv => ⟨v, hv, .refl _⟩⟩, fun j v h => ⟨v, h, .refl _⟩⟩
/-- Both orders end at N, or know more. -/
def QJ (N : S) : Exit → S → Prop
  | .normal, s => Less N s
  | _, _ => False
variable {l : List (Nat × Bool)} {r : Nat}
theorem AD2.noV1 {j : Nat} {b b' : Bool} (hi : L[i]? = some o) (hg : o.guard = some (j, b)) (hy : yld L.toArray s j = some b') (hb' : (b' == b) = false) (hd : dok s o = true) (hN : AD2 c L.toArray Q need l (s.put o.dst (.d (.p undef)))) : AD2 c L.toArray Q need ((i, false) :: l) s := fun W g a w hs hb => by
  have hw' : ¬ Region.wanted o (yielded L.toArray a.tmps) = true := by rw [not_wanted hg hy hb' g a w hs]; simp
  show wpOp c.P L.toArray (QQ c Q) i _ a w
  unfold wpOp
  simp only [List.getElem?_toArray, hi]
  rw [if_neg hw']
  exact ⟨fun _ => hb, hN W g _ w (hs.put o.dst (dok_spec hd) (.d _ _ (.p _))) hb⟩
end
theorem DRep.of_sl {α : Type} {w : World} {q : Nat → Prop} {sz bt : Nat} {cells : α → List Value} {enc : α → List D} {v : Value} {l : List α} (h : SlAt w sz bt cells v l) (hq : ∀ b, q b) (hsz : 0 < sz) (he : ∀ x, (enc x).length ≤ sz) (hc : ∀ x, (cells x).length = sz)
    (hr : ∀ x ∈ l, ∀ (j : Nat) (u : D) (y : Value), (enc x)[j]? = some u → (cells x)[j]? = some y → DRep w q u y) : DRep w q (.sl sz bt (l.map enc)) v := by
  obtain ⟨a, cap, rfl, hl, hn, hat⟩ := h
  by_cases h0 : l = []
  · subst h0
    have := DRep.sl (w := w) (q := q) sz bt [] a cap 0 0 (fun _ _ => undef) (Nat.zero_le _) (fun h => absurd rfl h) zT16 zT16 zT16
    simpa using this
  have hpos : 0 < l.length := by cases l with | nil => exact absurd rfl h0 | cons => simp
  obtain ⟨b, o, x0, rfl, _, hc0⟩ := hat 0 hpos
  have hat' : ∀ i, i < l.length → ∀ x, l[i]? = some x → ∀ j, j < sz → w.cell? ⟨b, o + i * sz + j, none⟩ = (cells x)[j]? := by
    intro i hi x hx j hj
    obtain ⟨b', o', x', hb, hx', hcell⟩ := hat i hi
    simp only [Option.some.injEq, Addr.mk.injEq, and_true] at hb
    obtain ⟨rfl, rfl⟩ := hb
    rw [hx] at hx'
    simp only [Option.some.injEq] at hx'
    subst hx'
    exact hcell j hj
  have hb : b < w.heap.size := by
    have h1 := hat' 0 hpos l[0] (List.getElem?_eq_getElem hpos) 0 hsz
    rw [List.getElem?_eq_getElem (by rw [hc]; omega)] at h1
    exact World.block_lt_of_cell? w _ h1
  have key := DRep.sl (w := w) (q := q) sz bt (l.map enc) (some ⟨b, o, none⟩) cap b o (fun i j => ((l[i]?.map cells).getD []).getD j undef) (by simpa using hn.2) (fun _ => ⟨rfl, hq b, hb⟩) (by simpa using hl) (by
    intro i j row u hi hj
    rw [List.getElem?_map] at hi
    cases hx : l[i]? with
    | none => rw [hx] at hi; cases hi
    | some x =>
      rw [hx] at hi
      simp only [Option.map_some, Option.some.injEq] at hi
      subst hi
      have hj' : j < sz := Nat.lt_of_lt_of_le (List.getElem?_eq_some_iff.1 hj).1 (he x)
      rw [hat' i (List.getElem?_eq_some_iff.1 hx).1 x hx j hj']
      rw [List.getElem?_eq_getElem (by rw [hc]; exact hj')]
      simp [List.getD_eq_getElem?_getD, List.getElem?_eq_getElem (show j < (cells x).length by rw [hc]; exact hj')]) (by
    intro i j row u hi hj
    rw [List.getElem?_map] at hi
    cases hx : l[i]? with
    | none => rw [hx] at hi; cases hi
    | some x =>
      rw [hx] at hi
      simp only [Option.map_some, Option.some.injEq] at hi
      subst hi
      have hj' : j < sz := Nat.lt_of_lt_of_le (List.getElem?_eq_some_iff.1 hj).1 (he x)
      refine hr x (List.mem_of_getElem? hx) j u _ hj ?_
      simp [List.getD_eq_getElem?_getD, List.getElem?_eq_getElem (show j < (cells x).length by rw [hc]; exact hj')])
  simpa using key
theorem rep_arcs {w : World} {q : Nat → Prop} {v : Value} {l : List Ar} (h : ArcsAt w v l) (hq : ∀ b, q b) : DRep w q (arsD l) v :=
  DRep.of_sl h hq zT15 (fun _ => by simp) arCells_len (fun x _ j u y hu hy => by
    match j, hu, hy with
    | 0, hu, hy => simp [arCells] at hu hy; subst hu hy; exact .p _
    | 1, hu, hy => simp [arCells] at hu hy; subst hu hy; exact .p _
    | 2, hu, hy => simp [arCells] at hu hy; subst hu hy; exact .p _
    | 3, hu, hy => simp [arCells] at hu hy; subst hu hy; exact .p _
    | n + 4, hu, hy => simp at hu)
theorem rep_mach {w : World} {q : Nat → Prop} {g : Nat → Nat × Nat} {v : Value} {m : Mach} (h : MachAt w v m) (hq : ∀ b, q b) : VRep w q g (mV m) v := by
  obtain ⟨sv, rfl, ts, hts, hs, hall⟩ := h
  have h2 : DRep w q (stsD m.states) sv := by
    have := DRep.of_sl (enc := fun x : Int × Value × List Ar => [D.p (.int .i64 x.1), arsD x.2.2]) hs hq zT15 (fun _ => by simp) stCells_len (fun x hx j u y hu hy => by
      match j, hu, hy with
      | 0, hu, hy => simp [stCells] at hu hy; subst hu hy; exact .p _
      | 1, hu, hy => simp [stCells] at hu hy; subst hu hy; exact rep_arcs (hall x hx) hq
      | n + 2, hu, hy => simp at hu)
    rw [hts]
    simpa [stsD, stD, List.map_map, Function.comp_def] using this
  refine .agg [.i m.start, .d (stsD m.states)] [.int .i64 m.start, sv] rfl fun j u y hu hy => ?_
  match j, hu, hy with
  | 0, hu, hy => simp at hu hy; subst hu hy; exact .d _ _ (.p _)
  | 1, hu, hy => simp at hu hy; subst hu hy; exact .d _ _ h2
  | n + 2, hu, hy => simp at hu
theorem reps_nil {w : World} {q : Nat → Prop} {g : Nat → Nat × Nat} : VReps w q g [] [] := ⟨rfl, by simp⟩
theorem reps_cons {w : World} {q : Nat → Prop} {g : Nat → Nat × Nat} {v : V} {x : Value} {vs : List V} {xs : List Value} (h : VRep w q g v x) (hs : VReps w q g vs xs) : VReps w q g (v :: vs) (x :: xs) :=
  ⟨by simp [hs.1], fun j u y hu hy => by
    cases j with
    | zero => simp at hu hy; subst hu hy; exact h
    | succ j => exact hs.2 j u y (by simpa using hu) (by simpa using hy)⟩
section
variable {c : Cx} {s : S} {o : Oper}
variable {Q : Exit → S → Prop} {L : List Oper} {need : Nat → Bool} {l : List (Nat × Bool)} {i r : Nat}
end
section
variable {c : Cx} {s : S} {o : Oper}
end
section
variable {c : Cx} {s : S} {o : Oper}
theorem st_enter (l : List Nat) {ts : List V} {f : FuncId} {fn : Func} {code : Code} {n : Nat} {rs : List ResultVar} {ars : List V} {N : S → Prop} (hts : l.map (fun i => fnd s.T i) = ts.map some) (hf : Is c.P f fn code n rs) (hn : ars.length ≤ n) (hd : dok s o = true)
    (hex : ∀ g a w, Sim c g s a w → ∃ xs : List Value, (execOp a.eval o).run c.P w = .ok (.enter f xs.toArray) w ∧ VReps w (qt c s.H g) g ars xs)
    (h : ∀ kx, AW ⟨c.P, c.w0, c.out, kx, []⟩ code (QI c.P rs s.n l o.dst N) ⟨n, enum 0 ars, s.H, ts ++ s.K⟩) : Step c o s N := by
  intro g a w hs K Q hK
  obtain ⟨xs, hrun, harl, harg⟩ := hex g a w hs
  have hll : l.length = ts.length := by simpa using congrArg List.length hts
  have hlt : ∀ (j i : Nat) (v : V), l[j]? = some i → ts[j]? = some v → fnd s.T i = some v := by
    intro j i v h1 h2
    have h3 := congrArg (fun l => l[j]?) hts
    simp only [List.getElem?_map, h1, h2, Option.map_some, Option.some.injEq] at h3
    exact h3
  have hlt' : ∀ (j i : Nat), l[j]? = some i → ∃ v x, ts[j]? = some v ∧ fnd s.T i = some v ∧ a.tmps[i]? = some x ∧ VRep w (qt c s.H g) g v x := by
    intro j i h1
    have hj : j < ts.length := by rw [← hll]; exact (List.getElem?_eq_some_iff.1 h1).1
    have h2 := hlt j i ts[j] h1 (List.getElem?_eq_getElem hj)
    obtain ⟨x, h3, h4⟩ := hs.tmp i _ h2
    exact ⟨_, x, List.getElem?_eq_getElem hj, h2, h3, h4⟩
  have hsim : Sim ⟨c.P, c.w0, c.out, l.map (fun i => a.tmps.getD i undef) ++ c.kx, []⟩ g ⟨n, enum 0 ars, s.H, ts ++ s.K⟩ { tmps := xs.toArray ++ Array.replicate (fn.ntmps - xs.toArray.size) undef, defers := [] } w := by
    refine ⟨?_, rfl, ?_, hs.nul, hs.obj, ?_, hs.inj, hs.base, hs.low, hs.below⟩
    · simp [hf.ntmps]; omega
    · intro i v hv
      obtain ⟨_, h2⟩ := fnd_enum _ 0 i v hv
      simp only [Nat.sub_zero] at h2
      have hi : i < xs.length := by
        have := (List.getElem?_eq_some_iff.1 h2).1
        omega
      refine ⟨xs[i], ?_, ?_⟩
      · rw [hf.ntmps]
        exact enter_get (List.getElem?_eq_getElem hi) zT15
      exact harg i v _ h2 (List.getElem?_eq_getElem hi)
    intro j v x h1 h2
    by_cases hj : j < ts.length
    · rw [List.getElem?_append_left hj] at h1
      rw [List.getElem?_append_left zT11] at h2
      simp only [List.getElem?_map] at h2
      cases h3 : l[j]? with
      | none => rw [h3] at h2; cases h2
      | some i =>
        rw [h3] at h2
        simp only [Option.map_some, Option.some.injEq] at h2
        obtain ⟨v', x', h4, h5, h6, h7⟩ := hlt' j i h3
        rw [h4] at h1
        simp only [Option.some.injEq] at h1
        subst h1
        have : x = x' := by rw [← h2]; simp [Array.getD_eq_getD_getElem?, h6]
        subst this
        exact h7
    rw [List.getElem?_append_right zT15] at h1
    rw [List.getElem?_append_right zT11] at h2
    refine hs.keep (j - ts.length) v x h1 ?_
    simpa [hll] using h2
  unfold Oper.wp
  rw [hrun]
  simp only [Oper.upon]
  refine calls_of_wp hf.func hf.body (wp_mono (h (l.map (fun i => a.tmps.getD i undef) ++ c.kx) g _ w hsim) fun e a1 w1 hq => ?_)
  obtain ⟨g1, s1, h1, h2⟩ := hq
  have fin : (∃ vs, resL c.P s1 rs vs ∧ N (S.put ⟨s.n, l.zip s1.K, s1.H, s1.K.drop l.length⟩ o.dst (tupOf vs))) →
      a1.defers = [] ∧ ∃ v, (results fn a1.tmps).run c.P w1 = .ok v w1 ∧ K (a.put o.dst v) w1 := by
    rintro ⟨vs, k1, k2⟩
    obtain ⟨x, k3, k4⟩ := run_results (c := ⟨c.P, c.w0, c.out, l.map (fun i => a.tmps.getD i undef) ++ c.kx, []⟩) hf.results h2 k1
    refine ⟨h2.defers, x, k4, ?_⟩
    refine hK g1 _ _ _ k2 (Sim.put (s := ⟨s.n, l.zip s1.K, s1.H, s1.K.drop l.length⟩) (c := c) ?_ o.dst (dok_spec (s := s) hd) k3)
    refine ⟨hs.size, hs.defers, ?_, h2.nul, h2.obj, ?_, h2.inj, h2.base, h2.low, h2.below⟩
    · intro i v hv
      obtain ⟨j, h3, h4⟩ := fnd_zip _ _ i v hv
      obtain ⟨v', x', h5, h6, h7, h8⟩ := hlt' j i h3
      refine ⟨x', h7, h2.keep j v x' h4 ?_⟩
      have hj : j < l.length := (List.getElem?_eq_some_iff.1 h3).1
      simp only
      rw [List.getElem?_append_left (by simpa using hj)]
      simp [h3, Array.getD_eq_getD_getElem?, h7]
    intro j v x h3 h4
    refine h2.keep (l.length + j) v x (by simpa using h3) ?_
    simp only
    rw [List.getElem?_append_right zT16]
    simpa using h4
  cases e with
  | normal => exact fin h1
  | ret => exact fin h1
  | _ => exact h1.elim
end
/-- How a call ends that worked on its caller's objects: result, objects, kept values. -/
def QP (P : Program) (rs : List ResultVar) (post : V → List (Nat × Row) → List V → Prop) : Exit → S → Prop
  | .normal, s => ∃ vs, resL P s rs vs ∧ post (tupOf vs) s.H s.K
  | .ret, s => ∃ vs, resL P s rs vs ∧ post (tupOf vs) s.H s.K
  | _, _ => False
/-- How the caller goes on. -/
def back (s : S) (l : List Nat) (d : Option Tmp) (v : V) (H : List (Nat × Row)) (K : List V) : S := S.put ⟨s.n, l.zip K, H, K.drop l.length⟩ d v
/-- A call of function f with the objects H and the kept values K. -/
def PC (P : Program) (f : FuncId) (args : List V) (H : List (Nat × Row)) (K : List V) (post : V → List (Nat × Row) → List V → Prop) : Prop :=
  ∀ (c : Cx) (s : S) (o : Oper) (fx : Operand) (xs : Array Operand) (tys : Array TypeId) (l : List Nat) (ts : List V), c.P = P → o.op = .call { callee := .value fx, args := xs, argTypes := tys } → s.ev fx = some (.fn f []) → xs.toList.map s.ev = args.map some →
    l.map (fun i => fnd s.T i) = ts.map some → s.H = H → ts ++ s.K = K → dok s o = true → Step c o s (fun s' => ∃ v H' K', post v H' K' ∧ s' = back s l o.dst v H' K')
/-- A call of a method through an interface value that holds v of type t. -/
def PM (P : Program) (t : TypeId) (v : V) (name : String) (args : List V) (H : List (Nat × Row)) (K : List V) (post : V → List (Nat × Row) → List V → Prop) : Prop :=
  ∀ (c : Cx) (s : S) (o : Oper) (rx : Operand) (xs : Array Operand) (tys : Array TypeId) (l : List Nat) (ts : List V), c.P = P → o.op = .call { callee := .invoke rx name, args := xs, argTypes := tys } → s.ev rx = some (.ifc t v) → xs.toList.map s.ev = args.map some →
    l.map (fun i => fnd s.T i) = ts.map some → s.H = H → ts ++ s.K = K → dok s o = true → Step c o s (fun s' => ∃ v H' K', post v H' K' ∧ s' = back s l o.dst v H' K')
theorem QP.toQI {P : Program} {rs : List ResultVar} {post : V → List (Nat × Row) → List V → Prop} {s : S} {l : List Nat} {d : Option Tmp} {e : Exit} {s1 : S} (h : QP P rs post e s1) : QI P rs s.n l d (fun s' => ∃ v H' K', post v H' K' ∧ s' = back s l d v H' K') e s1 := by
  cases e with
  | normal => obtain ⟨vs, h1, h2⟩ := h; exact ⟨vs, h1, _, _, _, h2, rfl⟩
  | ret => obtain ⟨vs, h1, h2⟩ := h; exact ⟨vs, h1, _, _, _, h2, rfl⟩
  | _ => exact h.elim
theorem PC.intro {P : Program} {f : FuncId} {fn : Func} {code : Code} {n : Nat} {rs : List ResultVar} {args : List V} {H : List (Nat × Row)} {K : List V} {post : V → List (Nat × Row) → List V → Prop} (hf : Is P f fn code n rs) (hn : args.length ≤ n)
    (h : ∀ w0 out kx, AW ⟨P, w0, out, kx, []⟩ code (QP P rs post) ⟨n, enum 0 args, H, K⟩) : PC P f args H K post := by
  intro c s o fx xs tys l ts hP ho hfx hargs hts hH hK hd
  subst hP hH hK
  refine st_enter l hts hf hn hd (fun g a w hs => ?_) (fun kx => (h c.w0 c.out kx).mono fun e s1 hq => hq.toQI)
  obtain ⟨cs, hfv, hcl, _⟩ := fn_eval hs hfx
  obtain rfl : cs = [] := by cases cs with | nil => rfl | cons => simp at hcl
  exact ⟨_, by rw [exec_call (caps := []) hf ho hfv, List.append_nil], args_eval hs hargs⟩
section
variable {c : Cx} {s : S} {o : Oper} {Q : Exit → S → Prop} {ops : Array Oper} {rest : List Oper}
theorem AL.pc {P : Program} {f : FuncId} {args : List V} {H : List (Nat × Row)} {K : List V} {post : V → List (Nat × Row) → List V → Prop} {fx : Operand} {xs : Array Operand} {tys : Array TypeId} (l : List Nat) {ts : List V} (h : PC P f args H K post) (hg : o.guard = none) (hP : c.P = P) (ho : o.op = .call { callee := .value fx, args := xs, argTypes := tys }) (hfx : s.ev fx = some (.fn f [])) (hargs : xs.toList.map s.ev = args.map some)
    (hts : l.map (fun i => fnd s.T i) = ts.map some) (hH : s.H = H) (hK : ts ++ s.K = K) (hd : dok s o = true) (hN : ∀ v H' K', post v H' K' → AL c ops rest Q (back s l o.dst v H' K')) : AL c ops (o :: rest) Q s :=
  AL.step hg fun g a w hs K' Q' hK' => h c s o fx xs tys l ts hP ho hfx hargs hts hH hK hd g a w hs K' Q' fun g' s' a' w' ⟨v, H', K2, h1, h2⟩ h3 => hK' g' s' a' w' (by subst h2; exact hN _ _ _ h1) h3
/-- Objects and kept values that lie below: none of them is one of the heap's. -/
structure Lw (H : List (Nat × Row)) (K : List V) : Prop where
  obj : ∀ x ∈ H, x.1 < 900 ∧ V.lowL 901 x.2.cells = true
  keep : V.lowL 901 K = true
theorem Lw.all {H : List (Nat × Row)} {K : List V} (h : Lw H K) : ∀ r, 901 ≤ r → H.all (fun x => x.1 != r && !V.hasL r x.2.cells) = true := fun r hr => by
  rw [List.all_eq_true]
  intro x hx
  obtain ⟨h1, h2⟩ := h.obj x hx
  rw [V.lowL_has hr _ h2]
  simp; omega
theorem Lw.has {H : List (Nat × Row)} {K : List V} (h : Lw H K) : ∀ r, 901 ≤ r → V.hasL r K = false := fun r hr => V.lowL_has hr _ h.keep
theorem Lw.fnd {H : List (Nat × Row)} {K : List V} (h : Lw H K) : ∀ r, 900 ≤ r → Go.Proofs.YthiknkcigcglkaaGreatDoor.fnd H r = none := fun r hr => by
  cases hh : Go.Proofs.YthiknkcigcglkaaGreatDoor.fnd H r with
  | none => rfl
  | some row => have := (h.obj _ (fnd_mem hh)).1; simp only at this; omega
theorem Lw.forgetK {H : List (Nat × Row)} {K : List V} (h : Lw H K) : ∀ r, 901 ≤ r → K.map (junkIf r) = K := fun r hr => by
  have h1 := V.hasL_false.1 (h.has r hr)
  have : ∀ (l : List V), (∀ v ∈ l, v.has r = false) → l.map (junkIf r) = l := by
    intro l
    induction l with
    | nil => intro _; rfl
    | cons v l ih =>
      intro hl
      rw [List.map_cons, ih fun v hv => hl v (by simp [hv]), junkIf, if_neg (by rw [hl v zT16]; simp)]
  exact this K h1
theorem Lw.forgetH {H : List (Nat × Row)} {K : List V} (h : Lw H K) : ∀ r, 901 ≤ r → (H.filter (fun x => x.1 != r)).map (fun x => (x.1, { x.2 with cells := if V.hasL r x.2.cells then x.2.cells.map (junkIf r) else x.2.cells })) = H := fun r hr => by
  have : ∀ (l : List (Nat × Row)), (∀ x ∈ l, x.1 < 900 ∧ V.lowL 901 x.2.cells = true) → (l.filter (fun x => x.1 != r)).map (fun x => (x.1, { x.2 with cells := if V.hasL r x.2.cells then x.2.cells.map (junkIf r) else x.2.cells })) = l := by
    intro l
    induction l with
    | nil => intro _; rfl
    | cons x l ih =>
      intro hl
      obtain ⟨h1, h2⟩ := hl x zT16
      rw [List.filter_cons, if_pos zT11, List.map_cons, ih fun x hx => hl x (by simp [hx]), V.lowL_has hr _ h2]
      simp
  exact this H h.obj
/-- The objects as a call wants them: the variable, its slice, all others. -/
theorem Less.hp {s : S} {T : List (Nat × V)} {b r : Row} {H0 : List (Nat × Row)} (hT : LT s T) (h1 : fnd s.H 900 = some b) (h2 : fnd s.H 901 = some r) (h3 : ∀ k row, fnd H0 k = some row → fnd s.H k = some row) : Less ⟨s.n, T, (900, b) :: (901, r) :: H0, s.K⟩ s := by
  refine ⟨rfl, fun i v h => hT.get i v h, fun k row h => ⟨row, ?_, rfl, rfl, rfl, fun j v hv => ⟨v, hv, .refl _⟩⟩, fun j v h => ⟨v, h, .refl _⟩⟩
  simp only [fnd] at h
  split at h
  · rename_i e
    simp only [beq_iff_eq] at e
    subst e
    rw [h1]; exact h
  split at h
  · rename_i e
    simp only [beq_iff_eq] at e
    subst e
    rw [h2]; exact h
  exact h3 k row h
theorem Lw.low {H : List (Nat × Row)} {K : List V} (h : Lw H K) {T : List (Nat × Row)} (hT : T.all (fun x => decide (900 ≤ x.1)) = true) : ∀ k row, Go.Proofs.YthiknkcigcglkaaGreatDoor.fnd H k = some row → Go.Proofs.YthiknkcigcglkaaGreatDoor.fnd (T ++ H) k = some row := fun k row hk => by
  have hlt : k < 900 := (h.obj _ (fnd_mem hk)).1
  induction T with
  | nil => exact hk
  | cons x T ih =>
    simp only [List.all_cons, Bool.and_eq_true, decide_eq_true_eq] at hT
    obtain ⟨i, y⟩ := x
    simp only at hT
    simp only [List.cons_append, Go.Proofs.YthiknkcigcglkaaGreatDoor.fnd]
    rw [if_neg zT11]
    exact ih hT.2
theorem Lw.keepL {H : List (Nat × Row)} {K : List V} (h : Lw H K) (ts : List V) (ht : V.lowL 901 ts = true) : Lw H (ts ++ K) := ⟨h.obj, by
  have : ∀ (l : List V), V.lowL 901 l = true → V.lowL 901 (l ++ K) = true := by
    intro l
    induction l with
    | nil => intro _; exact h.keep
    | cons v l ih =>
      intro hl
      simp only [V.lowL, Bool.and_eq_true] at hl
      simp only [List.cons_append, V.lowL, Bool.and_eq_true]
      exact ⟨hl.1, ih hl.2⟩
  exact this ts ht⟩
theorem S.clean_hp {n r : Nat} {T : List (Nat × V)} {L H0 : List (Nat × Row)} {K : List V} (hl : Lw H0 K) (hr : 901 ≤ r) (hT : T.all (fun x => !x.2.has r) = true) (hL : L.all (fun x => x.1 != r && !V.hasL r x.2.cells) = true) : S.clean ⟨n, T, L ++ H0, K⟩ r = true := by
  simp only [S.clean, List.all_append, hT, hL, hl.all r hr, hl.has r hr]
  rfl
/-- As QP, from a state that may know more. -/
def QPW (P : Program) (rs : List ResultVar) (post : V → List (Nat × Row) → List V → Prop) : Exit → S → Prop
  | .normal, s => ∃ s', Less s' s ∧ QP P rs post .normal s'
  | .ret, s => ∃ s', Less s' s ∧ QP P rs post .ret s'
  | _, _ => False
theorem AW.weaken {P : Program} {rs : List ResultVar} {post : V → List (Nat × Row) → List V → Prop} {x : Code} (h : AW c x (QPW P rs post) s) : AW c x (QP P rs post) s := fun g a w hs => wp_mono (h g a w hs) fun e a' w' hq => by
  obtain ⟨g', s1, h1, h3⟩ := hq
  cases e <;> first | (obtain ⟨s2, h4, h5⟩ := h1; exact ⟨g', s2, h5, h3.less h4⟩) | exact h1.elim
end
section
variable {P : Program} {ops : Array Oper} {Q : Exit → Act → World → Prop} {md : Region.Mode} {T : World → Prop} {need : Nat → Bool}
def anyF (P : Program) (md : Region.Mode) (ops : Array Oper) (Q : Exit → Act → World → Prop) (T : World → Prop) (need : Nat → Bool) : Nat → Array Bool → Act → World → Prop
  | 0, listed, a, w => Region.ready md ops listed = [] ∧ Q .normal a w
  | n + 1, listed, a, w => (Region.ready md ops listed = [] → Q .normal a w) ∧
      ∀ i ∈ Region.ready md ops listed, wpOp P ops Q i (fun a' w' => (need i = true → T w → T w') ∧ anyF P md ops Q T need n (listed.setIfInBounds i true) a' w') a w
theorem any_of_anyF : ∀ (n : Nat) (listed : Array Bool) (a : Act) (w : World), anyF P md ops Q T need n listed a w → wpAny P md ops Q n listed a w
  | 0, _, _, _, h => h
  | n + 1, _, _, _, h => ⟨h.1, fun i hi => wpOp_mono (fun a' w' h' => any_of_anyF n _ a' w' h'.2) (h.2 i hi)⟩
theorem not_listed {listed : Array Bool} {i : Nat} (hr : i ∈ Region.ready md ops listed) : listed.getD i false = false := by
  have hil := (mem_ready.1 hr).1
  rw [Array.getD_eq_getD_getElem?] at hil ⊢
  cases hl : listed[i]? with
  | none => rw [hl] at hil; cases hil
  | some b => rw [hl] at hil; exact hil
theorem anyF_early {k i N : Nat} {oi : Oper} {v : Value} {S : World → Prop} (hk : (k = 2 ∧ S = fun _ => True) ∨ (k = 1 ∧ S = T ∧ ∀ j, j ≠ i → j < ops.size → need j = true ∨ reachB md ops N j i = true)) (hi : ops[i]? = some oi) (hsel : ∀ (j : Nat) (o : Oper) cs b, ops[j]? = some o → o.op ≠ .select cs b)
    (hQ : ∀ c a w, Q (.panic c) (a.put oi.dst v) w → Q (.panic c) a w) (n : Nat) :
    ∀ (listed : Array Bool) (a : Act) (w : World), closedL md ops listed →
      (∀ j oj, ops[j]? = some oj → j ≠ i → listed.getD j true = false → (∀ e ∈ oj.after, Region.binds md e = true → e.on ≠ i) → oi.apart ops oj = true) →
      i ∈ Region.ready md ops listed → YieldsIf P ops S oi v a → S w →
      anyF P md ops Q T need n (listed.setIfInBounds i true) (a.put oi.dst v) w → anyF P md ops Q T need (n + 1) listed a w := by
  induction n with
  | zero =>
    intro listed a w hcl hfree hr hy hS H
    refine ⟨fun h => by rw [h] at hr; exact absurd hr List.not_mem_nil, fun j hj => ?_⟩
    by_cases hji : j = i
    · subst hji
      exact hy.wpOp hi hS ⟨fun _ h => h, H⟩
    have hm := ready_mono hj hji
    rw [H.1] at hm
    exact absurd hm List.not_mem_nil
  | succ n ih =>
    intro listed a w hcl hfree hr hy hS H
    refine ⟨fun h => by rw [h] at hr; exact absurd hr List.not_mem_nil, fun j hj => ?_⟩
    by_cases hji : j = i
    · subst hji
      exact hy.wpOp hi hS ⟨fun _ h => h, H⟩
    have hij : i ≠ j := fun h => hji h.symm
    have hnext := H.2 j (ready_mono hj hji)
    obtain ⟨hjl, oj, hoj, hdone⟩ := mem_ready.1 hj
    have hil' := not_listed hr
    have hno : ∀ e ∈ oj.after, Region.binds md e = true → e.on ≠ i := by
      intro e he hb hei
      have hd := hdone e he hb
      rw [hei, hil'] at hd
      cases hd
    have hstep := wpOp_putIf hoj (hfree j oj hoj hji hjl hno) (fun cs b => hsel i oi cs b hi) (fun cs b => hsel j oj cs b hoj) hQ hy hnext
    refine wpOp_mono (fun a' w' h3 => ?_) hstep
    obtain ⟨hy', hS', hrest⟩ := h3
    have hSw : S w' := by
      rcases hk with ⟨_, rfl⟩ | ⟨_, rfl, hz⟩
      · trivial
      refine hS' ?_ hS
      rcases hz j hji (Array.getElem?_eq_some_iff.1 hoj).1 with h | h
      · exact h
      have := reach_ready hcl h hj
      rw [hil'] at this
      cases this
    refine ⟨hS', ih _ a' w' (closed_set hcl hj) ?_ (ready_mono hr hij) hy' hSw ?_⟩
    · intro k ok hk hki hkl hkn
      refine hfree k ok hk hki ?_ hkn
      by_cases hjk : j = k
      · subst hjk
        exact hjl
      rwa [getD_set_ne true hjk] at hkl
    rw [Array.setIfInBounds_comm _ _ hji]
    exact hrest
def ASeqF (P : Program) (ops : Array Oper) (Q : Exit → Act → World → Prop) (T : World → Prop) (need : Nat → Bool) : List (Nat × Nat) → Act → World → Prop
  | [], a, w => Q .normal a w
  | (i, 0) :: r, a, w => wpOp P ops Q i (fun a' w' => (need i = true → T w → T w') ∧ ASeqF P ops Q T need r a' w') a w
  | (i, 1) :: r, a, w => ∃ oi x, ops[i]? = some oi ∧ YieldsIf P ops T oi x a ∧ T w ∧ (∀ c a w, Q (.panic c) (a.put oi.dst x) w → Q (.panic c) a w) ∧ ASeqF P ops Q T need r (a.put oi.dst x) w
  | (i, _ + 2) :: r, a, w => ∃ oi x, ops[i]? = some oi ∧ YieldsIf P ops (fun _ => True) oi x a ∧ (∀ c a w, Q (.panic c) (a.put oi.dst x) w → Q (.panic c) a w) ∧ ASeqF P ops Q T need r (a.put oi.dst x) w
def okF (md : Region.Mode) (ops : Array Oper) (need : Nat → Bool) (N : Nat) : List (Nat × Nat) → Array Bool → Bool
  | [], listed => (Region.ready md ops listed).isEmpty
  | (i, 0) :: r, listed => (Region.ready md ops listed == [i]) && okF md ops need N r (listed.setIfInBounds i true)
  | (i, 1) :: r, listed => (Region.ready md ops listed).contains i && Region.free md ops listed i && ((List.range ops.size).all fun j => j == i || need j || reachB md ops N j i) && okF md ops need N r (listed.setIfInBounds i true)
  | (i, _ + 2) :: r, listed => (Region.ready md ops listed).contains i && Region.free md ops listed i && okF md ops need N r (listed.setIfInBounds i true)
theorem anyF_of {N : Nat} (hsel : Region.noSelect ops = true) : ∀ (l : List (Nat × Nat)) (listed : Array Bool) (a : Act) (w : World), closedL md ops listed → okF md ops need N l listed = true → ASeqF P ops Q T need l a w → anyF P md ops Q T need l.length listed a w
  | [], listed, a, w, _, hok, h => ⟨by simpa [okF] using hok, h⟩
  | (i, 0) :: r, listed, a, w, hcl, hok, h => by
    simp only [okF, Bool.and_eq_true, beq_iff_eq] at hok
    obtain ⟨h1, h2⟩ := hok
    have hr : i ∈ Region.ready md ops listed := by rw [h1]; exact List.mem_singleton.2 rfl
    refine ⟨fun h0 => (by rw [h0] at h1; cases h1), fun j hj => ?_⟩
    rw [h1] at hj
    obtain rfl := List.mem_singleton.1 hj
    exact wpOp_mono (fun a' w' h' => ⟨h'.1, anyF_of hsel r _ a' w' (closed_set hcl hr) h2 h'.2⟩) h
  | (i, 1) :: r, listed, a, w, hcl, hok, h => by
    simp only [okF, Bool.and_eq_true, List.all_eq_true, List.mem_range, Bool.or_eq_true, beq_iff_eq] at hok
    obtain ⟨⟨⟨h1, h2⟩, h3⟩, h4⟩ := hok
    obtain ⟨oi, x, g1, g2, g3, g4, g5⟩ := h
    have hr : i ∈ Region.ready md ops listed := by simpa using h1
    refine anyF_early (k := 1) (N := N) (S := T) (.inr ⟨rfl, rfl, fun j hj hlt => ?_⟩) g1 (Region.noSelect_spec hsel) g4 r.length listed a w hcl (Region.free_spec g1 h2) hr g2 g3 (anyF_of hsel r _ _ w (closed_set hcl hr) h4 g5)
    rcases h3 j hlt with (h | h) | h
    · exact absurd h hj
    · exact .inl h
    exact .inr h
  | (i, m + 2) :: r, listed, a, w, hcl, hok, h => by
    simp only [okF, Bool.and_eq_true] at hok
    obtain ⟨⟨h1, h2⟩, h4⟩ := hok
    obtain ⟨oi, x, g1, g2, g4, g5⟩ := h
    have hr : i ∈ Region.ready md ops listed := by simpa using h1
    exact anyF_early (k := 2) (N := N) (S := fun _ => True) (.inl ⟨rfl, rfl⟩) g1 (Region.noSelect_spec hsel) g4 r.length listed a w hcl (Region.free_spec g1 h2) hr g2 trivial (anyF_of hsel r _ _ w (closed_set hcl hr) h4 g5)
end
section
variable {c : Cx} {s : S} {Q : Exit → S → Prop} {ops : Array Oper} {L : List Oper} {need : Nat → Bool} {l : List (Nat × Nat)} {i : Nat} {o : Oper}
end
/-- As Fn, in the worlds of which Pre holds. -/
def FnP (Pre : World → Prop) (P : Program) (f : FuncId) (args : List V) (post : V → Prop) : Prop := ∀ (w : World) (out : Nat → Prop) (g : Nat → Nat × Nat) (xs : List Value), Pre w → (∀ b, out b → b < w.heap.size) → VReps w (fun b => ¬ out b) g args xs →
  Calls P f xs.toArray w fun e w' => ∃ v x, e = .returned x ∧ post v ∧ v.pure ∧ VRep w' (fun b => ¬ out b) g v x ∧ Below w.heap.size w w'
def Kept (Pre : World → Prop) : Prop := ∀ w w' : World, Below w.heap.size w w' → Pre w → Pre w'
theorem FnP.ofCalls {Pre : World → Prop} {P : Program} {f : FuncId} {xs : List Value} {y : Value} {args : List V} {v : V} (h : ∀ w, Pre w → Calls P f xs.toArray w fun e w' => e = .returned y ∧ Below w.heap.size w w') (ha : ∀ w q g zs, VReps w q g args zs → zs = xs) (hv : ∀ w q g, VRep w q g v y) (hp : v.pure) : FnP Pre P f args (fun v' => v' = v) := by
  intro w out g zs hw ho hz
  obtain rfl := ha _ _ _ _ hz
  refine (h w hw).mono ?_
  rintro e w' ⟨rfl, hb⟩
  exact ⟨v, y, rfl, rfl, hp, hv _ _ _, hb⟩
theorem FnP.intro {Pre : World → Prop} {P : Program} {f : FuncId} {fn : Func} {code : Code} {n : Nat} {rs : List ResultVar} {args : List V} {post : V → Prop} (hf : Is P f fn code n rs) (hp : ∀ v ∈ args, v.pure) (hn : args.length ≤ n)
    (h : ∀ w0 out, Pre w0 → AW ⟨P, w0, out, [], []⟩ code (QF P rs post) ⟨n, enum 0 args, [], []⟩) : FnP Pre P f args post := by
  intro w out g xs hw hout hx
  refine calls_of_wp hf.func hf.body ?_
  have hs : Sim ⟨P, w, out, [], []⟩ g ⟨n, enum 0 args, [], []⟩ { tmps := xs.toArray ++ Array.replicate (fn.ntmps - xs.toArray.size) undef, defers := [] } w := by
    refine ⟨?_, rfl, ?_, by simp [fnd], by simp [fnd], by simp, by simp [fnd], by simp [fnd], hout, Below.refl _ _⟩
    · simp [hf.ntmps, ← hx.1]; omega
    · intro i v hv
      obtain ⟨_, h2⟩ := fnd_enum args 0 i v hv
      simp only [Nat.sub_zero] at h2
      have hi : i < xs.length := by rw [← hx.1]; exact (List.getElem?_eq_some_iff.1 h2).1
      refine ⟨xs[i], ?_, ?_⟩
      · rw [hf.ntmps]
        exact enter_get (List.getElem?_eq_getElem hi) (by rw [← hx.1]; exact hn)
      · refine (hx.2 i v _ h2 (List.getElem?_eq_getElem hi)).mono Cells.rfl (fun b hb _ => ⟨hb, by simp [fnd]⟩) (fun r _ => rfl)
  refine wp_mono (h w out hw g _ w hs) fun e a' w' hq => ?_
  obtain ⟨g', s', h1, h2⟩ := hq
  have fin : (∃ vs, resL P s' rs vs ∧ post (tupOf vs) ∧ (tupOf vs).pure) → a'.defers = [] ∧ ∃ v, (results fn a'.tmps).run P w' = .ok v w' ∧ ∃ v_1 x, Ending.returned v = .returned x ∧ post v_1 ∧ v_1.pure ∧ VRep w' (fun b => ¬ out b) g v_1 x ∧ Below w.heap.size w w' := by
    rintro ⟨vs, k1, k2, k3⟩
    obtain ⟨x, k4, k5⟩ := run_results (c := ⟨P, w, out, [], []⟩) hf.results h2 k1
    exact ⟨h2.defers, x, k5, _, x, rfl, k2, k3, (k4.repure k3).mono Cells.rfl (fun b hb _ => hb.1) (fun r _ => rfl), h2.below⟩
  cases e with
  | normal => exact fin h1
  | ret => exact fin h1
  | _ => exact h1.elim
section
variable {c : Cx} {s : S} {o : Oper}
theorem sm_callP {Pre : World → Prop} {fx : Operand} {xs : Array Operand} {ts : Array TypeId} {f : FuncId} {fn : Func} {code : Code} {n : Nat} {rs : List ResultVar} {args : List V} {post : V → Prop} (hk : Kept Pre) (h0 : Pre c.w0) (hfn : FnP Pre c.P f args post) (hf : Is c.P f fn code n rs) (ho : o.op = .call { callee := .value fx, args := xs, argTypes := ts })
    (hfx : s.ev fx = some (.fn f [])) (hargs : xs.toList.map s.ev = args.map some) (hd : dok s o = true) : StepM c o s (fun s' => ∃ v, post v ∧ v.pure ∧ s' = s.put o.dst v) := by
  intro g a w hs K Q hK
  have hfx' : a.eval fx = .func (.func f) #[] ([] : List Value).toArray := by
    have h := hs.ev hfx
    generalize a.eval fx = u at h
    cases h with
    | fn _ _ cs hl _ =>
      obtain rfl : cs = [] := by cases cs with | nil => rfl | cons => simp at hl
      rfl
  have hx : VReps w (fun b => ¬ ¬ qt c s.H g b) g args (xs.toList.map a.eval) := by
    refine ⟨by simpa using (congrArg List.length hargs).symm, fun j u y hu hy => ?_⟩
    have h1 := congrArg (fun l => l[j]?) hargs
    simp only [List.getElem?_map, hu, Option.map_some] at h1 hy
    cases h2 : xs.toList[j]? with
    | none => rw [h2] at h1; cases h1
    | some p =>
      rw [h2] at h1 hy
      simp only [Option.map_some, Option.some.injEq] at h1 hy
      subst hy
      exact (hs.ev h1).mono Cells.rfl (fun b hb _ => not_not_intro hb) (fun r _ => rfl)
  unfold Oper.wp
  rw [exec_call (caps := []) hf ho hfx']
  simp only [Oper.upon, List.append_nil]
  refine (hfn w (fun b => ¬ qt c s.H g b) g _ (hk _ _ hs.below h0) ?_ hx).mono ?_
  · intro b hb
    rcases Classical.em (c.out b) with h | h
    · exact Nat.lt_of_lt_of_le (hs.low b h) hs.below.size
    · rcases Classical.em (∃ r row, fnd s.H r = some row ∧ row.nil = false ∧ (g r).1 = b) with ⟨r, row, h1, h2, rfl⟩ | h'
      · obtain ⟨arr, h3, _⟩ := hs.obj r row h1 h2
        exact (Array.getElem?_eq_some_iff.1 h3).1
      · exact absurd ⟨h, fun r row h1 h2 h3 => h' ⟨r, row, h1, h2, h3⟩⟩ hb
  · rintro e w' ⟨v, x, rfl, h1, h2, h3, h4⟩
    refine hK g _ _ _ ⟨v, h1, h2, rfl⟩ ((hs.move h4).put o.dst (dok_spec hd) ?_) h4
    exact h3.mono Cells.rfl (fun b hb _ => Classical.not_not.1 hb) (fun r _ => rfl)
end
theorem tab_kept (P : Program) (name : String) (k : IntKind) (zs : List Int) : Kept (fun w => Lib.TabIs P w name k zs) := by
  intro w w' hb h
  unfold Lib.TabIs World.var? at h ⊢
  cases hg : P.globalNamed name with
  | none => rw [hg] at h; simp at h
  | some g =>
    rw [hg] at h
    simp only [Option.bind_some] at h ⊢
    cases ho : w.heap[g]? with
    | none => rw [ho] at h; simp at h
    | some ob => rw [hb.block g (Array.getElem?_eq_some_iff.1 ho).1]; exact h
section
variable {c : Cx} {s : S} {o : Oper}
/-- A pointer to an object of the call's own, held against itself. -/
theorem rp_neqp_same {t t' e : TypeId} {sz bt : Nat} {z : Value} {x y : Operand} {r k : Nat} (hu : c.P.underlying t = some (.pointer e)) (hii : Inf c.P e sz bt z) (ho : o.op = .binOp .neq t x y t') (hx : s.ev x = some (.ref r k)) (hy : s.ev y = some (.ref r k)) : RP c o s (.b false) := fun g a w hs => by
  obtain ⟨j, hi, _⟩ := hii.out
  have h1 := hs.ev hx
  have h2 := hs.ev hy
  refine ⟨.bool false, .d _ _ (.p _), fun w' => ?_⟩
  have h3 : a.eval x = .pointer (some ⟨(g r).1, k, none⟩) := by generalize a.eval x = u at h1; cases h1; rfl
  have h4 : a.eval y = .pointer (some ⟨(g r).1, k, none⟩) := by generalize a.eval y = u at h2; cases h2; rfl
  have h := Lib.run_neq_ptr_same w' (P := c.P) ⟨(g r).1, k, none⟩ hu hi
  simp [execOp, ho, h3, h4, eqGuard, h]
theorem rp_eqlp_nil {t t' e : TypeId} {x y : Operand} (hu : c.P.underlying t = some (.pointer e)) (ho : o.op = .binOp .eql t x y t') (hx : s.ev x = some (.d (.p (.pointer none)))) (hy : s.ev y = some (.d (.p (.pointer none)))) : RP c o s (.b true) :=
  rp_ptr (b := true) (.inl rfl) hu ho hx hy fun w q g z hz => by rw [VRep.p_eq hz]; exact ⟨_, rfl, rfl⟩
/-- A pointer to an object of the call's own is not nil. -/
theorem rp_eqlp_own {t t' e : TypeId} {x y : Operand} {r k : Nat} (hu : c.P.underlying t = some (.pointer e)) (ho : o.op = .binOp .eql t x y t') (hx : s.ev x = some (.ref r k)) (hy : s.ev y = some (.d (.p (.pointer none)))) : RP c o s (.b false) :=
  rp_ptr (b := false) (.inl rfl) hu ho hx hy fun w q g z hz => by cases hz; exact ⟨_, rfl, rfl⟩
end
end Go.Proofs.YthiknkcigcglkaaGreatDoor
