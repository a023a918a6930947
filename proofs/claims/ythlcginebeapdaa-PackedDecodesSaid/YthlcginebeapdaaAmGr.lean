/- Rules for rows of growing slices. -/
import Derived.Test.YthlcginebeapdaaAmG
namespace Go.Proofs.Ythlcginebeapdaa
open Go.RowKit
set_option linter.unusedSimpArgs false
set_option linter.unusedVariables false

mutual
def V.low (b : Nat) : V → Bool
  | .d _ => true
  | .ad _ => true
  | .ref k _ => decide (k < b)
  | .own k _ _ _ => decide (k < b)
  | .que k _ _ _ => decide (k < b)
  | .agg l => V.lowL b l
  | .tup l => V.lowL b l
  | .fn _ l => V.lowL b l
  | .mp k _ _ => decide (k < b)
  | .mq k _ _ => decide (k < b)
  | .ifc _ v => V.low b v
  | .mp2 _ k k' _ _ _ => decide (k < b) && decide (k' < b)
  | .it k _ _ _ => decide (k < b)
  | .mit k k' _ _ _ => decide (k < b) && decide (k' < b)
  | .mm k _ _ => decide (k < b)
  | .junk => true
def V.lowL (b : Nat) : List V → Bool
  | [] => true
  | v :: l => V.low b v && V.lowL b l
end
mutual
theorem V.low_has {b r : Nat} (hr : b ≤ r) : ∀ (v : V), v.low b = true → v.has r = false
  | .d _, _ => rfl
  | .ad _, _ => rfl
  | .ref k _, h => by simp [V.low] at h; simp [V.has]; omega
  | .own k _ _ _, h => by simp [V.low] at h; simp [V.has]; omega
  | .que k _ _ _, h => by simp [V.low] at h; simp [V.has]; omega
  | .agg l, h => V.lowL_has hr l (by simpa [V.low] using h)
  | .tup l, h => V.lowL_has hr l (by simpa [V.low] using h)
  | .fn _ l, h => V.lowL_has hr l (by simpa [V.low] using h)
  | .mp k _ _, h => by simp [V.low] at h; simp [V.has]; omega
  | .mq k _ _, h => by simp [V.low] at h; simp [V.has]; omega
  | .ifc _ v, h => by simpa [V.has] using V.low_has hr v (by simpa [V.low] using h)
  | .mp2 _ k k' _ _ _, h => by simp [V.low] at h; simp [V.has]; omega
  | .it k _ _ _, h => by simp [V.low] at h; simp [V.has]; omega
  | .mit k k' _ _ _, h => by simp [V.low] at h; simp [V.has]; omega
  | .mm k _ _, h => by simp [V.low] at h; simp [V.has]; omega
  | .junk, _ => rfl
theorem V.lowL_has {b r : Nat} (hr : b ≤ r) : ∀ (l : List V), V.lowL b l = true → V.hasL r l = false
  | [], _ => rfl
  | v :: l, h => by
    simp only [V.lowL, Bool.and_eq_true] at h
    simp only [V.hasL, V.low_has hr v h.1, V.lowL_has hr l h.2, Bool.or_false]
end
def junkHi (b : Nat) (v : V) : V := if v.low b then v else .junk
theorem junkHi_wk {b r : Nat} (hr : b ≤ r) (v : V) : Wk (junkHi b v) (junkIf r v) := by
  unfold junkHi
  split
  · rename_i h
    rw [junkIf, if_neg (by rw [V.low_has hr v h]; simp)]
    exact .refl _
  · exact .junk _

section
variable {β : Type} {F : Fam β} {c : Cx} {s : S} {o : Oper} {Q : Exit → S → Prop}

theorem fnd_app {α : Type} : ∀ (l l' : List (Nat × α)) (i : Nat), fnd (l ++ l') i = match fnd l i with | some v => some v | none => fnd l' i
  | [], l', i => by simp [fnd]
  | (k, v) :: l, l', i => by
    simp only [List.cons_append, fnd]
    split
    · rfl
    · exact fnd_app l l' i
theorem fnd_low {α : Type} {b : Nat} {l : List (Nat × α)} (h : l.all (fun x => decide (x.1 < b)) = true) {i : Nat} (hi : b ≤ i) : fnd l i = none := by
  cases hh : fnd l i with
  | none => rfl
  | some v =>
    have := List.all_eq_true.1 h _ (fnd_mem hh)
    simp at this
    omega
theorem Fam.cells_has {m : Nat} (hm : ∀ x, (F.pre x).length = m) : ∀ (l : List β) (k p j : Nat) (v : V), (F.cells k l)[j]? = some v → v.has (k + p) = true → j = p * (m + 1) + m
  | [], k, p, j, v, h, hv => by simp [Fam.cells] at h
  | x :: l, k, p, j, v, h, hv => by
    simp only [Fam.cells] at h
    by_cases hj : j < m
    · rw [List.getElem?_append_left (by simpa [hm] using hj)] at h
      rw [List.getElem?_map] at h
      cases hd : (F.pre x)[j]? with
      | none => rw [hd] at h; cases h
      | some d => rw [hd] at h; simp at h; subst h; simp [V.has] at hv
    · rw [List.getElem?_append_right (by simp [hm]; omega)] at h
      simp only [List.length_map, hm] at h
      cases hjm : j - m with
      | zero =>
        rw [hjm] at h
        simp at h
        subst h
        simp [Fam.ownV, V.has] at hv
        subst hv
        omega
      | succ i =>
        rw [hjm, List.getElem?_cons_succ] at h
        cases p with
        | zero =>
          have := V.hasL_false.1 (Fam.cells_hasL (F := F) l (k + 1) k (by omega)) v (List.mem_of_getElem? h)
          rw [Nat.add_zero, this] at hv
          cases hv
        | succ p =>
          have := Fam.cells_has hm l (k + 1) p i v h (by rw [show k + 1 + p = k + (p + 1) by omega]; exact hv)
          rw [Nat.succ_mul]
          omega

/-- An element of one of the slices is appended: the cell that held the slice is stale until it is stored again. -/
theorem st_append_famX {lits : List (Nat × Row)} {L : List β} {base p rb m r2 bt : Nat} {t : TypeId} {x y : Operand} {x0 x' : β} {z : Value} {row2 : Row} {zb : Nat} {tyb : TypeId} {fb : Bool} {newrow : List D} (hu : c.P.underlying t = some (.slice F.ty)) (hi : Inf c.P F.ty F.sz bt z) (hzs : z.cells.size = F.sz) (hsz : 0 < F.sz) (hb64 : bt ≤ 64)
    (ho : o.op = .call { callee := .builtin .append, args := #[x, y], argTypes := #[t, t] }) (hH : s.H = lits ++ F.objs base L) (hx : s.ev x = some (F.ownV (base + p) x0)) (hp : L[p]? = some x0) (hm : ∀ x, (F.pre x).length = m) (hrow : ∀ x, ∀ l ∈ F.it x, l.length = F.sz)
    (hlow : lits.all (fun x => decide (x.1 < base)) = true) (hrb : fnd lits rb = some ⟨tyb, F.cells base L, fb, zb⟩) (hy : s.ev y = some (.own r2 F.sz 1 false)) (hr2 : fnd lits r2 = some row2) (hf2 : row2.nil = false) (hnews : row2.cells.take (1 * F.sz) = newrow.map V.d) (hone : (newrow.map V.d).all V.one = true)
    (hpre : F.pre x' = F.pre x0) (hit : F.it x' = F.it x0 ++ [newrow]) (hnl : newrow.length = F.sz) (hd : dok s o = true) (hlo : ∀ x ∈ lits, x.1 ≠ rb → V.hasL (base + p) x.2.cells = false) (hlen : (F.it x0).length ≤ 1000000) :
    StepX c o s (base + p) (fun s' => s' = S.put ⟨s.n, s.T.map (fun x => (x.1, junkHi base x.2)), (rb, ⟨tyb, (F.cells base (L.set p x')).set (p * (m + 1) + m) .junk, fb, zb⟩) :: lits ++ F.objs base (L.set p x'), s.K.map (junkHi base)⟩ o.dst (F.ownV (base + p) x')) := by
  have hpl : p < L.length := (List.getElem?_eq_some_iff.1 hp).1
  have hfl : ∀ x, (F.it x).flatten.length = (F.it x).length * F.sz := by
    intro x
    have := hrow x
    generalize F.it x = l at this
    induction l with
    | nil => simp
    | cons y l ih => simp [ih (fun z hz => this z (by simp [hz])), this y (by simp), Nat.succ_mul, Nat.add_comm]
  have hfr : fnd s.H (base + p) = some (F.row x0) := by rw [hH, fnd_app, fnd_low hlow (by omega), Fam.objs_get, hp]; rfl
  have hrb' : rb < base := by have := List.all_eq_true.1 hlow _ (fnd_mem hrb); simpa using this
  have hr2' : fnd s.H r2 = some row2 := by rw [hH, fnd_app, hr2]
  have key := st_appendX (n := (F.it x0).length) (m := 1) (f := (F.it x0).isEmpty) hu hi hzs hsz ho (by rw [hx]; rfl) hfr rfl rfl rfl (l1 := (F.row x0).cells) (List.take_of_length_le (by simp only [Fam.row, List.length_map, hfl]; exact Nat.le_refl _)) (by simp only [Fam.row, List.length_map, hfl]) (Fam.row_hasL x0 _) hy hr2' hf2 hnews (by simp [hnl]) (hasL_dmap _ _) hone (by omega) (by omega) (by
    have : ((F.it x0).length + 1) * bt ≤ 1000001 * 64 := Nat.mul_le_mul (by omega) hb64
    omega) hd
  intro g a w hs K Q' hK
  refine key g a w hs K Q' fun g' s' a' w' hs' hsim hx' => ?_
  subst hs'
  have hne : (F.it x').isEmpty = false := by rw [hit]; cases F.it x0 <;> rfl
  have hlx : (F.it x').length = (F.it x0).length + 1 := by rw [hit]; simp
  have hval : F.ownV (base + p) x' = .own (base + p) F.sz ((F.it x0).length + 1) false := by rw [Fam.ownV, hne, hlx]
  have hrowx : F.row x' = ⟨F.ty, (F.row x0).cells ++ newrow.map V.d, false, F.sz⟩ := by unfold Fam.row; rw [hne, hit]; congr 1; simp only [List.flatten_append, List.map_append, List.flatten_cons, List.flatten_nil, List.append_nil]
  refine hK g' _ a' w' rfl (hsim.less ⟨?_, ?_, ?_, ?_⟩) hx'
  · cases o.dst <;> rfl
  · intro i v hv
    have hT : ∀ v, fnd (s.T.map (fun x => (x.1, junkHi base x.2))) i = some v → ∃ u, fnd (s.forget (base + p)).T i = some u ∧ Wk v u := by
      intro v hv
      rw [fnd_map] at hv
      simp only [S.forget]
      rw [fnd_map]
      cases hu : fnd s.T i with
      | none => rw [hu] at hv; cases hv
      | some u => rw [hu] at hv; simp at hv; subst hv; exact ⟨_, rfl, junkHi_wk (by omega) u⟩
    cases hdst : o.dst with
    | none =>
      rw [hdst] at hv
      exact hT v hv
    | some d =>
      rw [hdst] at hv
      simp only [S.put, fnd] at hv ⊢
      split at hv
      · rename_i e
        simp only [Option.some.injEq] at hv
        subst hv
        simp only [e, if_true]
        exact ⟨_, rfl, by rw [hval]; exact .refl _⟩
      · rename_i e
        simp only [e, if_false]
        exact hT v hv
  · intro r row' hr
    have hr : fnd ((rb, (⟨tyb, (F.cells base (L.set p x')).set (p * (m + 1) + m) .junk, fb, zb⟩ : Row)) :: lits ++ F.objs base (L.set p x')) r = some row' := by
      cases hdst : o.dst <;> (rw [hdst] at hr; exact hr)
    have goal : ∃ row, fnd ((base + p, (⟨F.ty, (F.row x0).cells ++ newrow.map V.d, false, F.sz⟩ : Row)) :: (s.forget (base + p)).H) r = some row ∧ row'.ty = row.ty ∧ row'.nil = row.nil ∧ row'.sz = row.sz ∧ ∀ (j : Nat) (v : V), row'.cells[j]? = some v → ∃ u, row.cells[j]? = some u ∧ Wk v u := by
      have hfor : ∀ r, r ≠ base + p → fnd ((base + p, (⟨F.ty, (F.row x0).cells ++ newrow.map V.d, false, F.sz⟩ : Row)) :: (s.forget (base + p)).H) r = (fnd s.H r).map (fun (x : Row) => ({ x with cells := if V.hasL (base + p) x.cells then x.cells.map (junkIf (base + p)) else x.cells } : Row)) := by
        intro r hne
        simp only [fnd, beq_iff_eq, Ne.symm hne, if_false, S.forget]
        rw [fnd_map (fun (x : Row) => ({ x with cells := if V.hasL (base + p) x.cells then x.cells.map (junkIf (base + p)) else x.cells } : Row)), fnd_filter _ _ _ hne]
      rw [List.cons_append, fnd] at hr
      by_cases e : rb = r
      · subst e
        rw [if_pos (by simp)] at hr
        have hr := Option.some.inj hr
        subst hr
        have h1 : fnd s.H rb = some ⟨tyb, F.cells base L, fb, zb⟩ := by rw [hH, fnd_app, hrb]
        rw [hfor rb (by omega), h1]
        refine ⟨_, rfl, rfl, rfl, rfl, fun j v hv => ?_⟩
        rw [Fam.cells_setown hm L base p x0 x' _ hp hpre, List.getElem?_set] at hv
        have hhas : V.hasL (base + p) (F.cells base L) = true := by
          cases hh : V.hasL (base + p) (F.cells base L) with
          | true => rfl
          | false =>
            have h2 := V.hasL_false.1 hh _ (List.mem_of_getElem? (Fam.cells_own hm L base p x0 hp))
            simp [Fam.ownV, V.has] at h2
        dsimp only
        rw [if_pos hhas, List.getElem?_map]
        have hcl : (F.cells base L)[p * (m + 1) + m]? = some (F.ownV (base + p) x0) := Fam.cells_own hm L base p x0 hp
        split at hv
        · rename_i e
          subst e
          rw [if_pos (List.getElem?_eq_some_iff.1 hcl).1] at hv
          simp only [Option.some.injEq] at hv
          subst hv
          rw [hcl]
          exact ⟨_, rfl, .junk _⟩
        · rename_i e
          rw [hv]
          refine ⟨_, rfl, ?_⟩
          have : v.has (base + p) = false := by
            cases hh : v.has (base + p) with
            | false => rfl
            | true => exact absurd (Fam.cells_has hm L base p j v hv hh).symm e
          rw [junkIf, this]
          exact .refl _
      · rw [if_neg (by simpa using e)] at hr
        rw [fnd_app] at hr
        cases hl : fnd lits r with
        | some row =>
          rw [hl] at hr
          simp only [Option.some.injEq] at hr
          subst hr
          have hrl : r < base := by have := List.all_eq_true.1 hlow _ (fnd_mem hl); simpa using this
          rw [hfor r (by omega), hH, fnd_app, hl]
          have := hlo _ (fnd_mem hl) (fun e' => e e'.symm)
          simp only at this
          exact ⟨_, rfl, rfl, rfl, rfl, fun j v hv => ⟨v, by dsimp only; rw [this, if_neg (by simp)]; exact hv, .refl _⟩⟩
        | none =>
          rw [hl] at hr
          simp only at hr
          obtain ⟨i, y, rfl, hy', rfl⟩ := Fam.objs_inv hr
          by_cases hip : i = p
          · subst hip
            rw [List.getElem?_set_self hpl] at hy'
            simp only [Option.some.injEq] at hy'
            subst hy'
            refine ⟨⟨F.ty, (F.row x0).cells ++ newrow.map V.d, false, F.sz⟩, by simp [fnd], by rw [hrowx], by rw [hrowx], by rw [hrowx], fun j v hv => ⟨v, by rw [hrowx] at hv; exact hv, .refl _⟩⟩
          · rw [List.getElem?_set_ne (Ne.symm hip)] at hy'
            rw [hfor _ (by omega), hH, fnd_app, fnd_low hlow (by omega), Fam.objs_get, hy']
            exact ⟨_, rfl, rfl, rfl, rfl, fun j v hv => ⟨v, by dsimp only; rw [Fam.row_hasL, if_neg (by simp)]; exact hv, .refl _⟩⟩
    cases hdst : o.dst <;> exact goal
  · intro j v hv
    have hv : (s.K.map (junkHi base))[j]? = some v := by cases hdst : o.dst <;> (rw [hdst] at hv; exact hv)
    have goal : ∃ u, (s.K.map (junkIf (base + p)))[j]? = some u ∧ Wk v u := by
      rw [List.getElem?_map] at hv ⊢
      cases hu : s.K[j]? with
      | none => rw [hu] at hv; cases hv
      | some u => rw [hu] at hv; simp at hv; subst hv; exact ⟨_, rfl, junkHi_wk (by omega) u⟩
    cases hdst : o.dst <;> exact goal
theorem st_append_fam {lits : List (Nat × Row)} {L : List β} {base p rb m r2 bt : Nat} {t : TypeId} {x y : Operand} {x0 x' : β} {z : Value} {row2 : Row} {zb : Nat} {tyb : TypeId} {fb : Bool} {newrow : List D} (hu : c.P.underlying t = some (.slice F.ty)) (hi : Inf c.P F.ty F.sz bt z) (hzs : z.cells.size = F.sz) (hsz : 0 < F.sz) (hb64 : bt ≤ 64)
    (ho : o.op = .call { callee := .builtin .append, args := #[x, y], argTypes := #[t, t] }) (hH : s.H = lits ++ F.objs base L) (hx : s.ev x = some (F.ownV (base + p) x0)) (hp : L[p]? = some x0) (hm : ∀ x, (F.pre x).length = m) (hrow : ∀ x, ∀ l ∈ F.it x, l.length = F.sz)
    (hlow : lits.all (fun x => decide (x.1 < base)) = true) (hrb : fnd lits rb = some ⟨tyb, F.cells base L, fb, zb⟩) (hy : s.ev y = some (.own r2 F.sz 1 false)) (hr2 : fnd lits r2 = some row2) (hf2 : row2.nil = false) (hnews : row2.cells.take (1 * F.sz) = newrow.map V.d) (hone : (newrow.map V.d).all V.one = true)
    (hpre : F.pre x' = F.pre x0) (hit : F.it x' = F.it x0 ++ [newrow]) (hnl : newrow.length = F.sz) (hd : dok s o = true) (hlo : ∀ x ∈ lits, x.1 ≠ rb → V.hasL (base + p) x.2.cells = false) (hlen : (F.it x0).length ≤ 1000000) :
    Step c o s (fun s' => s' = S.put ⟨s.n, s.T.map (fun x => (x.1, junkHi base x.2)), (rb, ⟨tyb, (F.cells base (L.set p x')).set (p * (m + 1) + m) .junk, fb, zb⟩) :: lits ++ F.objs base (L.set p x'), s.K.map (junkHi base)⟩ o.dst (F.ownV (base + p) x')) := (st_append_famX hu hi hzs hsz hb64 ho hH hx hp hm hrow hlow hrb hy hr2 hf2 hnews hone hpre hit hnl hd hlo hlen).step

/-- The slice of an element. -/
theorem rd_load_fam {t : TypeId} {d : TypeDesc} {x : Operand} {rb k p m base : Nat} {row : Row} {L : List β} {x0 : β} (hu : c.P.underlying t = some d) (hd : isAggD d = false) (ho : o.op = .load t x) (hx : s.ev x = some (.ref rb k)) (hr : fnd s.H rb = some row) (hn : row.nil = false) (hc : row.cells = F.cells base L) (hm : ∀ x, (F.pre x).length = m) (hk : k = p * (m + 1) + m) (hp : L[p]? = some x0) : RD c o s (F.ownV (base + p) x0) :=
  rd_load_ref hu hd ho hx hr hn (by rw [hc, hk]; exact Fam.cells_own hm L base p x0 hp)
/-- A plain cell of an element. -/
theorem rd_load_fpre {t : TypeId} {d : TypeDesc} {x : Operand} {rb k p j m base : Nat} {row : Row} {L : List β} {x0 : β} {v : D} (hu : c.P.underlying t = some d) (hd : isAggD d = false) (ho : o.op = .load t x) (hx : s.ev x = some (.ref rb k)) (hr : fnd s.H rb = some row) (hn : row.nil = false) (hc : row.cells = F.cells base L) (hm : ∀ x, (F.pre x).length = m) (hk : k = p * (m + 1) + j) (hp : L[p]? = some x0) (hv : (F.pre x0)[j]? = some v) : RD c o s (.d v) :=
  rd_load_ref hu hd ho hx hr hn (by rw [hc, hk]; exact Fam.cells_pre hm L base p j x0 v hp hv)
/-- The slice is stored again. -/
theorem st_store_fam {t : TypeId} {bt : Nat} {z : Value} {x y : Operand} {rb k p m base : Nat} {row : Row} {L : List β} {x0 : β} (hi : Inf c.P t 1 bt z) (ho : o.op = .store t x y) (hd : o.dst = none) (hx : s.ev x = some (.ref rb k)) (hy : s.ev y = some (F.ownV (base + p) x0)) (hr : fnd s.H rb = some row) (hn : row.nil = false)
    (hm : ∀ x, (F.pre x).length = m) (hc : row.cells = (F.cells base L).set (p * (m + 1) + m) .junk) (hk : k = p * (m + 1) + m) (hp : L[p]? = some x0) : Step c o s (fun s' => s' = { s with H := (rb, { row with cells := F.cells base L }) :: s.H }) := by
  have hcl := Fam.cells_own hm L base p x0 hp
  exact st_store hi ho hd hx hy hr hn rfl (by rw [hc, hk, List.length_set]; exact (List.getElem?_eq_some_iff.1 hcl).1) (by rw [hc, hk, Fam.cells_put hm hp])
/-- A plain cell is stored. -/
theorem st_store_fpre {t : TypeId} {bt : Nat} {z : Value} {x y : Operand} {rb k p j m base : Nat} {row : Row} {L : List β} {x0 : β} (x' : β) {lits : List (Nat × Row)} {v : D} (hi : Inf c.P t 1 bt z) (ho : o.op = .store t x y) (hd : o.dst = none) (hx : s.ev x = some (.ref rb k)) (hy : s.ev y = some (.d v)) (hH : s.H = lits ++ F.objs base L) (hr : fnd lits rb = some row) (hn : row.nil = false)
    (hm : ∀ x, (F.pre x).length = m) (hc : row.cells = F.cells base L) (hk : k = p * (m + 1) + j) (hp : L[p]? = some x0) (hj : j < m) (hone : (V.d v).one = true) (hpre : F.pre x' = (F.pre x0).set j v) (hit : F.it x' = F.it x0) : Step c o s (fun s' => s' = ⟨s.n, s.T, (rb, { row with cells := F.cells base (L.set p x') }) :: lits ++ F.objs base (L.set p x'), s.K⟩) := by
  have hpl := (List.getElem?_eq_some_iff.1 hp).1
  have key := st_store (l := F.cells base (L.set p x')) hi ho hd hx hy (row := row) (by rw [hH, fnd_app, hr]) hn hone (by
    rw [hc, hk, Fam.cells_len hm]
    have : p * (m + 1) + (m + 1) ≤ L.length * (m + 1) := by rw [← Nat.succ_mul]; exact Nat.mul_le_mul_right _ hpl
    omega) (by rw [hc, hk, Fam.cells_setpre hm L base p j x0 x' v hp hj hpre hit])
  rw [Fam.objs_setpre L base p x0 x' hp hit]
  rw [hH] at key
  exact key
end
end Go.Proofs.Ythlcginebeapdaa
