/- Part 3 of what the law PaperReads rests on. -/
import Derived.Deep.Upon
import Derived.Shelf.Small.Strs
import Derived.Shelf.Strings.Prefix
import Derived.Shelf.Strconv.ErrVarAll
import Derived.Test.YtkikceoccmoanaaGreatDoorProg
import Derived.Lib.IndexBytes
import Derived.Scope
import Derived.Test.YtkikceoccmoanaaGreatDoorPkPa1
import Derived.Test.YtkikceoccmoanaaGreatDoorPkPa2
namespace Go.Proofs.YtkikceoccmoanaaGreatDoor
open Go.RowKit
set_option linter.unusedSimpArgs false
set_option linter.unusedVariables false

mutual
def V.low (b : Nat) : V → Bool
  | .d _ => true
  | .ad _ => true
  | .ref k _ => decide (k < b)
  | .own k _ _ _ => decide (k < b)
  | .que k _ _ _ => decide (k < b)
  | .agg l => V.lowL b l
  | .tup l => V.lowL b l
  | .fn _ l => V.lowL b l
  | .mp k _ _ => decide (k < b)
  | .mq k _ _ => decide (k < b)
  | .ifc _ v => V.low b v
  | .mp2 _ k k' _ _ _ => decide (k < b) && decide (k' < b)
  | .it k _ _ _ => decide (k < b)
  | .mit k k' _ _ _ => decide (k < b) && decide (k' < b)
  | .mm k _ _ => decide (k < b)
  | .blk _ _ _ => true
  | .junk => true
def V.lowL (b : Nat) : List V → Bool
  | [] => true
  | v :: l => V.low b v && V.lowL b l
end
mutual
theorem V.low_has {b r : Nat} (hr : b ≤ r) : ∀ (v : V), v.low b = true → v.has r = false
  | .d _, _ => rfl
  | .ad _, _ => rfl
  | .ref k _, h => by simp [V.low] at h; simp [V.has]; omega
  | .own k _ _ _, h => by simp [V.low] at h; simp [V.has]; omega
  | .que k _ _ _, h => by simp [V.low] at h; simp [V.has]; omega
  | .agg l, h => V.lowL_has hr l (by simpa [V.low] using h)
  | .tup l, h => V.lowL_has hr l (by simpa [V.low] using h)
  | .fn _ l, h => V.lowL_has hr l (by simpa [V.low] using h)
  | .mp k _ _, h => by simp [V.low] at h; simp [V.has]; omega
  | .mq k _ _, h => by simp [V.low] at h; simp [V.has]; omega
  | .ifc _ v, h => by simpa [V.has] using V.low_has hr v (by simpa [V.low] using h)
  | .mp2 _ k k' _ _ _, h => by simp [V.low] at h; simp [V.has]; omega
  | .it k _ _ _, h => by simp [V.low] at h; simp [V.has]; omega
  | .mit k k' _ _ _, h => by simp [V.low] at h; simp [V.has]; omega
  | .mm k _ _, h => by simp [V.low] at h; simp [V.has]; omega
  | .blk _ _ _, _ => rfl
  | .junk, _ => rfl
theorem V.lowL_has {b r : Nat} (hr : b ≤ r) : ∀ (l : List V), V.lowL b l = true → V.hasL r l = false
  | [], _ => rfl
  | v :: l, h => by
    simp only [V.lowL, Bool.and_eq_true] at h
    simp only [V.hasL, V.low_has hr v h.1, V.lowL_has hr l h.2, Bool.or_false]
end
def junkHi (b : Nat) (v : V) : V := if v.low b then v else .junk
theorem junkHi_wk {b r : Nat} (hr : b ≤ r) (v : V) : Wk (junkHi b v) (junkIf r v) := by
  unfold junkHi
  split
  · rename_i h
    rw [junkIf, if_neg (by rw [V.low_has hr v h]; simp)]
    exact .refl _
  · exact .junk _

section
variable {β : Type} {F : Fam β} {c : Cx} {s : S} {o : Oper} {Q : Exit → S → Prop}

theorem fnd_app {α : Type} : ∀ (l l' : List (Nat × α)) (i : Nat), fnd (l ++ l') i = match fnd l i with | some v => some v | none => fnd l' i
  | [], l', i => by simp [fnd]
  | (k, v) :: l, l', i => by
    simp only [List.cons_append, fnd]
    split
    · rfl
    · exact fnd_app l l' i
theorem fnd_low {α : Type} {b : Nat} {l : List (Nat × α)} (h : l.all (fun x => decide (x.1 < b)) = true) {i : Nat} (hi : b ≤ i) : fnd l i = none := by
  cases hh : fnd l i with
  | none => rfl
  | some v =>
    have := List.all_eq_true.1 h _ (fnd_mem hh)
    simp at this
    omega
theorem Fam.cells_has {m : Nat} (hm : ∀ x, (F.pre x).length = m) : ∀ (l : List β) (k p j : Nat) (v : V), (F.cells k l)[j]? = some v → v.has (k + p) = true → j = p * (m + 1) + m
  | [], k, p, j, v, h, hv => by simp [Fam.cells] at h
  | x :: l, k, p, j, v, h, hv => by
    simp only [Fam.cells] at h
    by_cases hj : j < m
    · rw [List.getElem?_append_left (by simpa [hm] using hj)] at h
      rw [List.getElem?_map] at h
      cases hd : (F.pre x)[j]? with
      | none => rw [hd] at h; cases h
      | some d => rw [hd] at h; simp at h; subst h; simp [V.has] at hv
    · rw [List.getElem?_append_right (by simp [hm]; omega)] at h
      simp only [List.length_map, hm] at h
      cases hjm : j - m with
      | zero =>
        rw [hjm] at h
        simp at h
        subst h
        simp [Fam.ownV, V.has] at hv
        subst hv
        omega
      | succ i =>
        rw [hjm, List.getElem?_cons_succ] at h
        cases p with
        | zero =>
          have := V.hasL_false.1 (Fam.cells_hasL (F := F) l (k + 1) k (by omega)) v (List.mem_of_getElem? h)
          rw [Nat.add_zero, this] at hv
          cases hv
        | succ p =>
          have := Fam.cells_has hm l (k + 1) p i v h (by rw [show k + 1 + p = k + (p + 1) by omega]; exact hv)
          rw [Nat.succ_mul]
          omega

/-- An element of one of the slices is appended: the cell that held the slice is stale until it is stored again. -/
theorem st_append_famX {lits : List (Nat × Row)} {L : List β} {base p rb m r2 bt : Nat} {t : TypeId} {x y : Operand} {x0 x' : β} {z : Value} {row2 : Row} {zb : Nat} {tyb : TypeId} {fb : Bool} {newrow : List D} (hu : c.P.underlying t = some (.slice F.ty)) (hi : Inf c.P F.ty F.sz bt z) (hzs : z.cells.size = F.sz) (hsz : 0 < F.sz) (hb64 : bt ≤ 64)
    (ho : o.op = .call { callee := .builtin .append, args := #[x, y], argTypes := #[t, t] }) (hH : s.H = lits ++ F.objs base L) (hx : s.ev x = some (F.ownV (base + p) x0)) (hp : L[p]? = some x0) (hm : ∀ x, (F.pre x).length = m) (hrow : ∀ x, ∀ l ∈ F.it x, l.length = F.sz)
    (hlow : lits.all (fun x => decide (x.1 < base)) = true) (hrb : fnd lits rb = some ⟨tyb, F.cells base L, fb, zb⟩) (hy : s.ev y = some (.own r2 F.sz 1 false)) (hr2 : fnd lits r2 = some row2) (hf2 : row2.nil = false) (hnews : row2.cells.take (1 * F.sz) = newrow.map V.d) (hone : (newrow.map V.d).all V.one = true)
    (hpre : F.pre x' = F.pre x0) (hit : F.it x' = F.it x0 ++ [newrow]) (hnl : newrow.length = F.sz) (hd : dok s o = true) (hlo : ∀ x ∈ lits, x.1 ≠ rb → V.hasL (base + p) x.2.cells = false) (hlen : (F.it x0).length ≤ 1000000) :
    StepX c o s (base + p) (fun s' => s' = S.put ⟨s.n, s.T.map (fun x => (x.1, junkHi base x.2)), (rb, ⟨tyb, (F.cells base (L.set p x')).set (p * (m + 1) + m) .junk, fb, zb⟩) :: lits ++ F.objs base (L.set p x'), s.K.map (junkHi base)⟩ o.dst (F.ownV (base + p) x')) := by
  have hpl : p < L.length := (List.getElem?_eq_some_iff.1 hp).1
  have hfl : ∀ x, (F.it x).flatten.length = (F.it x).length * F.sz := by
    intro x
    have := hrow x
    generalize F.it x = l at this
    induction l with
    | nil => simp
    | cons y l ih => simp [ih (fun z hz => this z (by simp [hz])), this y (by simp), Nat.succ_mul, Nat.add_comm]
  have hfr : fnd s.H (base + p) = some (F.row x0) := by rw [hH, fnd_app, fnd_low hlow (by omega), Fam.objs_get, hp]; rfl
  have hrb' : rb < base := by have := List.all_eq_true.1 hlow _ (fnd_mem hrb); simpa using this
  have hr2' : fnd s.H r2 = some row2 := by rw [hH, fnd_app, hr2]
  have key := st_appendX (n := (F.it x0).length) (m := 1) (f := (F.it x0).isEmpty) hu hi hzs hsz ho (by rw [hx]; rfl) hfr rfl rfl rfl (l1 := (F.row x0).cells) (List.take_of_length_le (by simp only [Fam.row, List.length_map, hfl]; exact Nat.le_refl _)) (by simp only [Fam.row, List.length_map, hfl]) (Fam.row_hasL x0 _) hy hr2' hf2 hnews (by simp [hnl]) (hasL_dmap _ _) hone (by omega) (by omega) (by
    have : ((F.it x0).length + 1) * bt ≤ 1000001 * 64 := Nat.mul_le_mul (by omega) hb64
    omega) hd
  intro g a w hs K Q' hK
  refine key g a w hs K Q' fun g' s' a' w' hs' hsim hx' => ?_
  subst hs'
  have hne : (F.it x').isEmpty = false := by rw [hit]; cases F.it x0 <;> rfl
  have hlx : (F.it x').length = (F.it x0).length + 1 := by rw [hit]; simp
  have hval : F.ownV (base + p) x' = .own (base + p) F.sz ((F.it x0).length + 1) false := by rw [Fam.ownV, hne, hlx]
  have hrowx : F.row x' = ⟨F.ty, (F.row x0).cells ++ newrow.map V.d, false, F.sz⟩ := by unfold Fam.row; rw [hne, hit]; congr 1; simp only [List.flatten_append, List.map_append, List.flatten_cons, List.flatten_nil, List.append_nil]
  refine hK g' _ a' w' rfl (hsim.less ⟨?_, ?_, ?_, ?_⟩) hx'
  · cases o.dst <;> rfl
  · intro i v hv
    have hT : ∀ v, fnd (s.T.map (fun x => (x.1, junkHi base x.2))) i = some v → ∃ u, fnd (s.forget (base + p)).T i = some u ∧ Wk v u := by
      intro v hv
      rw [fnd_map] at hv
      simp only [S.forget]
      rw [fnd_map]
      cases hu : fnd s.T i with
      | none => rw [hu] at hv; cases hv
      | some u => rw [hu] at hv; simp at hv; subst hv; exact ⟨_, rfl, junkHi_wk (by omega) u⟩
    cases hdst : o.dst with
    | none =>
      rw [hdst] at hv
      exact hT v hv
    | some d =>
      rw [hdst] at hv
      simp only [S.put, fnd] at hv ⊢
      split at hv
      · rename_i e
        simp only [Option.some.injEq] at hv
        subst hv
        simp only [e, if_true]
        exact ⟨_, rfl, by rw [hval]; exact .refl _⟩
      · rename_i e
        simp only [e, if_false]
        exact hT v hv
  · intro r row' hr
    have hr : fnd ((rb, (⟨tyb, (F.cells base (L.set p x')).set (p * (m + 1) + m) .junk, fb, zb⟩ : Row)) :: lits ++ F.objs base (L.set p x')) r = some row' := by
      cases hdst : o.dst <;> (rw [hdst] at hr; exact hr)
    have goal : ∃ row, fnd ((base + p, (⟨F.ty, (F.row x0).cells ++ newrow.map V.d, false, F.sz⟩ : Row)) :: (s.forget (base + p)).H) r = some row ∧ row'.ty = row.ty ∧ row'.nil = row.nil ∧ row'.sz = row.sz ∧ ∀ (j : Nat) (v : V), row'.cells[j]? = some v → ∃ u, row.cells[j]? = some u ∧ Wk v u := by
      have hfor : ∀ r, r ≠ base + p → fnd ((base + p, (⟨F.ty, (F.row x0).cells ++ newrow.map V.d, false, F.sz⟩ : Row)) :: (s.forget (base + p)).H) r = (fnd s.H r).map (fun (x : Row) => ({ x with cells := if V.hasL (base + p) x.cells then x.cells.map (junkIf (base + p)) else x.cells } : Row)) := by
        intro r hne
        simp only [fnd, beq_iff_eq, Ne.symm hne, if_false, S.forget]
        rw [fnd_map (fun (x : Row) => ({ x with cells := if V.hasL (base + p) x.cells then x.cells.map (junkIf (base + p)) else x.cells } : Row)), fnd_filter _ _ _ hne]
      rw [List.cons_append, fnd] at hr
      by_cases e : rb = r
      · subst e
        rw [if_pos (by simp)] at hr
        have hr := Option.some.inj hr
        subst hr
        have h1 : fnd s.H rb = some ⟨tyb, F.cells base L, fb, zb⟩ := by rw [hH, fnd_app, hrb]
        rw [hfor rb (by omega), h1]
        refine ⟨_, rfl, rfl, rfl, rfl, fun j v hv => ?_⟩
        rw [Fam.cells_setown hm L base p x0 x' _ hp hpre, List.getElem?_set] at hv
        have hhas : V.hasL (base + p) (F.cells base L) = true := by
          cases hh : V.hasL (base + p) (F.cells base L) with
          | true => rfl
          | false =>
            have h2 := V.hasL_false.1 hh _ (List.mem_of_getElem? (Fam.cells_own hm L base p x0 hp))
            simp [Fam.ownV, V.has] at h2
        dsimp only
        rw [if_pos hhas, List.getElem?_map]
        have hcl : (F.cells base L)[p * (m + 1) + m]? = some (F.ownV (base + p) x0) := Fam.cells_own hm L base p x0 hp
        split at hv
        · rename_i e
          subst e
          rw [if_pos (List.getElem?_eq_some_iff.1 hcl).1] at hv
          simp only [Option.some.injEq] at hv
          subst hv
          rw [hcl]
          exact ⟨_, rfl, .junk _⟩
        · rename_i e
          rw [hv]
          refine ⟨_, rfl, ?_⟩
          have : v.has (base + p) = false := by
            cases hh : v.has (base + p) with
            | false => rfl
            | true => exact absurd (Fam.cells_has hm L base p j v hv hh).symm e
          rw [junkIf, this]
          exact .refl _
      · rw [if_neg (by simpa using e)] at hr
        rw [fnd_app] at hr
        cases hl : fnd lits r with
        | some row =>
          rw [hl] at hr
          simp only [Option.some.injEq] at hr
          subst hr
          have hrl : r < base := by have := List.all_eq_true.1 hlow _ (fnd_mem hl); simpa using this
          rw [hfor r (by omega), hH, fnd_app, hl]
          have := hlo _ (fnd_mem hl) (fun e' => e e'.symm)
          simp only at this
          exact ⟨_, rfl, rfl, rfl, rfl, fun j v hv => ⟨v, by dsimp only; rw [this, if_neg (by simp)]; exact hv, .refl _⟩⟩
        | none =>
          rw [hl] at hr
          simp only at hr
          obtain ⟨i, y, rfl, hy', rfl⟩ := Fam.objs_inv hr
          by_cases hip : i = p
          · subst hip
            rw [List.getElem?_set_self hpl] at hy'
            simp only [Option.some.injEq] at hy'
            subst hy'
            refine ⟨⟨F.ty, (F.row x0).cells ++ newrow.map V.d, false, F.sz⟩, by simp [fnd], by rw [hrowx], by rw [hrowx], by rw [hrowx], fun j v hv => ⟨v, by rw [hrowx] at hv; exact hv, .refl _⟩⟩
          · rw [List.getElem?_set_ne (Ne.symm hip)] at hy'
            rw [hfor _ (by omega), hH, fnd_app, fnd_low hlow (by omega), Fam.objs_get, hy']
            exact ⟨_, rfl, rfl, rfl, rfl, fun j v hv => ⟨v, by dsimp only; rw [Fam.row_hasL, if_neg (by simp)]; exact hv, .refl _⟩⟩
    cases hdst : o.dst <;> exact goal
  · intro j v hv
    have hv : (s.K.map (junkHi base))[j]? = some v := by cases hdst : o.dst <;> (rw [hdst] at hv; exact hv)
    have goal : ∃ u, (s.K.map (junkIf (base + p)))[j]? = some u ∧ Wk v u := by
      rw [List.getElem?_map] at hv ⊢
      cases hu : s.K[j]? with
      | none => rw [hu] at hv; cases hv
      | some u => rw [hu] at hv; simp at hv; subst hv; exact ⟨_, rfl, junkHi_wk (by omega) u⟩
    cases hdst : o.dst <;> exact goal
/-- The slice of an element. -/
theorem rd_load_fam {t : TypeId} {d : TypeDesc} {x : Operand} {rb k p m base : Nat} {row : Row} {L : List β} {x0 : β} (hu : c.P.underlying t = some d) (hd : isAggD d = false) (ho : o.op = .load t x) (hx : s.ev x = some (.ref rb k)) (hr : fnd s.H rb = some row) (hn : row.nil = false) (hc : row.cells = F.cells base L) (hm : ∀ x, (F.pre x).length = m) (hk : k = p * (m + 1) + m) (hp : L[p]? = some x0) : RD c o s (F.ownV (base + p) x0) :=
  rd_load_ref hu hd ho hx hr hn (by rw [hc, hk]; exact Fam.cells_own hm L base p x0 hp)
/-- A plain cell of an element. -/
theorem rd_load_fpre {t : TypeId} {d : TypeDesc} {x : Operand} {rb k p j m base : Nat} {row : Row} {L : List β} {x0 : β} {v : D} (hu : c.P.underlying t = some d) (hd : isAggD d = false) (ho : o.op = .load t x) (hx : s.ev x = some (.ref rb k)) (hr : fnd s.H rb = some row) (hn : row.nil = false) (hc : row.cells = F.cells base L) (hm : ∀ x, (F.pre x).length = m) (hk : k = p * (m + 1) + j) (hp : L[p]? = some x0) (hv : (F.pre x0)[j]? = some v) : RD c o s (.d v) :=
  rd_load_ref hu hd ho hx hr hn (by rw [hc, hk]; exact Fam.cells_pre hm L base p j x0 v hp hv)
/-- The slice is stored again. -/
theorem st_store_fam {t : TypeId} {bt : Nat} {z : Value} {x y : Operand} {rb k p m base : Nat} {row : Row} {L : List β} {x0 : β} (hi : Inf c.P t 1 bt z) (ho : o.op = .store t x y) (hd : o.dst = none) (hx : s.ev x = some (.ref rb k)) (hy : s.ev y = some (F.ownV (base + p) x0)) (hr : fnd s.H rb = some row) (hn : row.nil = false)
    (hm : ∀ x, (F.pre x).length = m) (hc : row.cells = (F.cells base L).set (p * (m + 1) + m) .junk) (hk : k = p * (m + 1) + m) (hp : L[p]? = some x0) : Step c o s (fun s' => s' = { s with H := (rb, { row with cells := F.cells base L }) :: s.H }) := by
  have hcl := Fam.cells_own hm L base p x0 hp
  exact st_store hi ho hd hx hy hr hn rfl (by rw [hc, hk, List.length_set]; exact (List.getElem?_eq_some_iff.1 hcl).1) (by rw [hc, hk, Fam.cells_put hm hp])
end
end Go.Proofs.YtkikceoccmoanaaGreatDoor
namespace Go.Proofs.YtkikceoccmoanaaGreatDoor
open Go.RowKit
set_option linter.unusedSimpArgs false
set_option linter.unusedVariables false

section
variable {β : Type} {F : Fam β} {c : Cx} {s : S} {Q : Exit → S → Prop}

theorem Fam.data_get (F : Fam β) {m : Nat} (hm : ∀ x, (F.pre x).length = m) : ∀ (l : List β) (k j : Nat) (v' : V), (l.flatMap fun x => (F.data x).map V.d)[j]? = some v' → ∃ v, (F.cells k l)[j]? = some v ∧ (v' = v ∧ (∀ r, v.has r = false) ∨ ∃ p x, l[p]? = some x ∧ v' = .d (.sl F.sz F.bt (F.it x)) ∧ v = F.ownV (k + p) x)
  | [], k, j, v', h => by simp at h
  | x :: l, k, j, v', h => by
    rw [List.flatMap_cons] at h
    simp only [Fam.cells, Fam.data, List.map_append, List.append_assoc] at h ⊢
    by_cases hj : j < m
    · rw [List.getElem?_append_left (by simpa [hm] using hj)] at h ⊢
      refine ⟨v', h, .inl ⟨rfl, ?_⟩⟩
      rw [List.getElem?_map] at h
      cases hd : (F.pre x)[j]? with
      | none => rw [hd] at h; cases h
      | some d => rw [hd] at h; simp at h; subst h; intro r; rfl
    · rw [List.getElem?_append_right (by simp [hm]; omega)] at h ⊢
      simp only [List.length_map, hm] at h ⊢
      cases hjm : j - m with
      | zero =>
        rw [hjm] at h
        simp at h
        subst h
        exact ⟨_, rfl, .inr ⟨0, x, rfl, rfl, rfl⟩⟩
      | succ i =>
        rw [hjm] at h
        simp only [List.map_cons, List.map_nil, List.cons_append, List.nil_append, List.getElem?_cons_succ] at h
        obtain ⟨v, h1, h2⟩ := Fam.data_get F hm l (k + 1) i v' (by simpa [Fam.data] using h)
        refine ⟨v, by simpa using h1, ?_⟩
        rcases h2 with h2 | ⟨p, y, h3, h4, h5⟩
        · exact .inl h2
        · exact .inr ⟨p + 1, y, by simpa using h3, h4, by rw [h5, show k + 1 + p = k + (p + 1) by omega]⟩
theorem flat_get {rows : List (List D)} {sz : Nat} (hr : ∀ l ∈ rows, l.length = sz) : ∀ (i j : Nat) (l : List D) (u : D), rows[i]? = some l → l[j]? = some u → (rows.flatten.map V.d)[i * sz + j]? = some (.d u) := by
  induction rows with
  | nil => intro i j l u h; simp at h
  | cons y rows ih =>
    intro i j l u h1 h2
    have hy := hr y (by simp)
    rw [List.flatten_cons, List.map_append]
    cases i with
    | zero =>
      simp at h1
      subst h1
      have hj := (List.getElem?_eq_some_iff.1 h2).1
      rw [Nat.zero_mul, Nat.zero_add, List.getElem?_append_left (by simpa using hj)]
      simp [h2]
    | succ i =>
      rw [List.getElem?_append_right (by simp [hy]; rw [Nat.succ_mul]; omega)]
      simp only [List.length_map, hy]
      rw [show (i + 1) * sz + j - sz = i * sz + j by rw [Nat.succ_mul]; omega]
      exact ih (fun l hl => hr l (by simp [hl])) i j l u (by simpa using h1) h2

/-- The row and all its slices become plain data. -/
theorem AW.famFreeze {code : Code} (lits : List (Nat × Row)) (rb : Nat) {m base : Nat} {L : List β} {row : Row} (hH : s.H = lits ++ F.objs base L) (hr : fnd lits rb = some row) (hn : row.nil = false) (hc : row.cells = F.cells base L) (hm : ∀ x, (F.pre x).length = m) (hrow : ∀ x, ∀ l ∈ F.it x, l.length = F.sz) (hbt : ∀ x ∈ L, (F.it x).length * F.bt ≤ 140737488355328) (hlow : lits.all (fun x => decide (x.1 < base)) = true)
    (hlo : ∀ x ∈ lits, x.1 ≠ rb → ∀ r, base ≤ r → V.hasL r x.2.cells = false) (hT : s.T.all (fun x => x.2.low base) = true) (hK : V.lowL base s.K = true)
    (h : AW c code Q ⟨s.n, s.T, (rb, { row with cells := L.flatMap fun x => (F.data x).map V.d }) :: lits, s.K⟩) : AW c code Q s := fun g a w hs => h _ a w (hs.conv id rfl
  (fun i v hv => ⟨v, hv, .same v fun _ _ => rfl⟩)
  (fun r row' hr' => by
    have hr' : fnd ((rb, { row with cells := L.flatMap fun x => (F.data x).map V.d }) :: lits) r = some row' := hr'
    rw [fnd] at hr'
    by_cases e : rb = r
    · subst e
      rw [if_pos (by simp)] at hr'
      have hr' := Option.some.inj hr'
      subst hr'
      refine .inr ⟨hn, row, by show fnd s.H rb = _; rw [hH, fnd_app, hr], hn, rfl, rfl, fun j v' hv => ?_⟩
      obtain ⟨v, h1, h2⟩ := Fam.data_get F hm L base j v' hv
      refine ⟨v, by rw [hc]; exact h1, ?_⟩
      rcases h2 with ⟨rfl, h2⟩ | ⟨p, x, h3, rfl, rfl⟩
      · exact .same _ fun _ _ => rfl
      · have hfr : fnd s.H (base + p) = some (F.row x) := by rw [hH, fnd_app, fnd_low hlow (by omega), Fam.objs_get, h3]; rfl
        refine .frz (base + p) F.sz _ F.bt _ _ _ hfr rfl rfl (hbt x (List.mem_of_getElem? h3)) (flat_get (hrow x)) ?_
        intro k row2 hk hk2 e
        have hk : fnd ((rb, { row with cells := L.flatMap fun x => (F.data x).map V.d }) :: lits) k = some row2 := hk
        simp only [id] at e
        subst e
        have hrbl : rb < base := by have := List.all_eq_true.1 hlow _ (fnd_mem hr); simpa using this
        rw [fnd, if_neg (by simp; omega), fnd_low hlow (by omega)] at hk
        cases hk
    · rw [if_neg (by simpa using e)] at hr'
      have h1 : fnd s.H r = some row' := by rw [hH, fnd_app, hr']
      cases hnn : row'.nil with
      | true => exact .inl ⟨rfl, hs.nul r row' h1 hnn⟩
      | false => exact .inr ⟨rfl, row', h1, hnn, rfl, rfl, fun j v hv => ⟨v, hv, .same v fun _ _ => rfl⟩⟩)
  (fun j v hv => ⟨v, hv, .same v fun _ _ => rfl⟩)
  (fun _ _ _ _ _ _ _ _ e => e))

/-- The row has got an element more, whose slice z was the call's own: it goes to the others. -/
theorem Sim.famPush {g : Nat → Nat × Nat} {a : Act} {w : World} (hs : Sim c g s a w) (lits : List (Nat × Row)) (rb z : Nat) (x : β) {base : Nat} {L : List β} {row : Row} (hH : s.H = lits ++ F.objs base L) (hr : fnd lits rb = some row) (hn : row.nil = false) (hz : fnd lits z = some (F.row x)) (hc : row.cells = F.cells base L ++ ((F.pre x).map V.d ++ [.own z F.sz (F.it x).length (F.it x).isEmpty])) (hzr : z ≠ rb) (hlow : lits.all (fun x => decide (x.1 < base)) = true)
    (hlo : ∀ x ∈ lits, x.1 ≠ rb → V.hasL z x.2.cells = false) (hT : s.T.all (fun x => !x.2.has z) = true) (hK : V.hasL z s.K = false) (hlo2 : ∀ x ∈ lits, x.1 ≠ rb → ∀ r, base ≤ r → V.hasL r x.2.cells = false) (hT2 : s.T.all (fun x => x.2.low base) = true) (hK2 : V.lowL base s.K = true) : ∃ g', Sim c g' ⟨s.n, s.T, (rb, { row with cells := F.cells base (L ++ [x]) }) :: lits.filter (fun x => x.1 != z) ++ F.objs base (L ++ [x]), s.K⟩ a w := by
  have hzb : z < base := by have := List.all_eq_true.1 hlow _ (fnd_mem hz); simpa using this
  have hrbb : rb < base := by have := List.all_eq_true.1 hlow _ (fnd_mem hr); simpa using this
  have hρ : ∀ v : V, v.has (base + L.length) = false → ∀ r, v.has r = true → (if r = base + L.length then z else r) = r := by
    intro v hv r hr
    rw [if_neg]
    rintro rfl
    rw [hv] at hr; cases hr
  have hfo : ∀ r row', fnd ((rb, { row with cells := F.cells base (L ++ [x]) }) :: (lits.filter (fun x => x.1 != z) ++ F.objs base (L ++ [x]))) r = some row' →
      r = rb ∧ row' = { row with cells := F.cells base (L ++ [x]) } ∨ (r ≠ rb ∧ r ≠ z ∧ r < base ∧ fnd lits r = some row') ∨ ∃ p y, r = base + p ∧ L[p]? = some y ∧ row' = F.row y ∨ r = base + L.length ∧ row' = F.row x := by
    intro r row' hr'
    rw [fnd] at hr'
    by_cases e : rb = r
    · subst e
      rw [if_pos (by simp)] at hr'
      exact .inl ⟨rfl, (Option.some.inj hr').symm⟩
    · rw [if_neg (by simpa using e), fnd_app] at hr'
      have e := Ne.symm e
      cases hl : fnd (lits.filter (fun x => x.1 != z)) r with
      | some row2 =>
        rw [hl] at hr'
        have hr' := Option.some.inj hr'
        subst hr'
        by_cases ez : r = z
        · subst ez; rw [fnd_filter_self] at hl; cases hl
        · rw [fnd_filter _ _ _ ez] at hl
          refine .inr (.inl ⟨e, ez, ?_, hl⟩)
          have := List.all_eq_true.1 hlow _ (fnd_mem hl)
          simpa using this
      | none =>
        rw [hl] at hr'
        obtain ⟨p, y, rfl, hy, rfl⟩ := Fam.objs_inv hr'
        rw [List.getElem?_append] at hy
        split at hy
        · exact .inr (.inr ⟨p, y, .inl ⟨rfl, hy, rfl⟩⟩)
        · rename_i hpl
          cases hpp : p - L.length with
          | zero =>
            rw [hpp] at hy
            simp at hy
            subst hy
            exact .inr (.inr ⟨p, x, .inr ⟨by omega, rfl⟩⟩)
          | succ i => rw [hpp] at hy; simp at hy
  have hlitfnd : ∀ r row', fnd lits r = some row' → fnd s.H r = some row' := fun r row' hr' => by rw [hH, fnd_app, hr']
  have hobj : ∀ p y, L[p]? = some y → fnd s.H (base + p) = some (F.row y) := fun p y hy => by rw [hH, fnd_app, fnd_low hlow (by omega), Fam.objs_get, hy]; rfl
  refine ⟨_, hs.conv (fun k => if k = base + L.length then z else k) rfl ?_ ?_ ?_ ?_⟩
  · intro i v hv
    refine ⟨v, hv, .same v (hρ v ?_)⟩
    have := List.all_eq_true.1 hT2 _ (fnd_mem hv)
    exact V.low_has (by omega) v this
  · intro r row' hr'
    rcases hfo r row' hr' with ⟨rfl, rfl⟩ | ⟨e1, e2, e3, h1⟩ | ⟨p, y, ⟨rfl, hy, rfl⟩ | ⟨rfl, rfl⟩⟩
    · refine .inr ⟨hn, row, ?_, hn, rfl, rfl, fun j v' hv => ?_⟩
      · rw [if_neg (by omega)]; exact hlitfnd _ _ hr
      · simp only at hv
        rw [Fam.cells_app] at hv
        rw [hc]
        have hz' : (F.cells base L ++ ((F.pre x).map V.d ++ [F.ownV (base + L.length) x]))[j]? = some v' := hv
        by_cases hj : j < (F.cells base L).length
        · rw [List.getElem?_append_left hj] at hz' ⊢
          refine ⟨v', hz', .same v' (hρ v' ?_)⟩
          cases hh : v'.has (base + L.length) with
          | false => rfl
          | true =>
            exfalso
            -- no element stands there
            have : ∀ (l : List β) (k : Nat) (v : V), v ∈ F.cells k l → v.has (k + l.length) = true → False := by
              intro l
              induction l with
              | nil => intro k v hv; simp [Fam.cells] at hv
              | cons y l ih =>
                intro k v hv hk
                simp only [Fam.cells, List.mem_append, List.mem_map, List.mem_cons] at hv
                rcases hv with ⟨d, _, rfl⟩ | rfl | hv
                · simp [V.has] at hk
                · simp [Fam.ownV, V.has] at hk
                · exact ih (k + 1) v hv (by rw [show k + 1 + l.length = k + (y :: l).length by simp; omega]; exact hk)
            exact this L base v' (List.mem_of_getElem? hz') hh
        · rw [List.getElem?_append_right (by omega)] at hz' ⊢
          by_cases hj2 : j - (F.cells base L).length < (F.pre x).length
          · rw [List.getElem?_append_left (by simpa using hj2)] at hz' ⊢
            refine ⟨v', hz', .same v' (hρ v' ?_)⟩
            rw [List.getElem?_map] at hz'
            cases hd : (F.pre x)[j - (F.cells base L).length]? with
            | none => rw [hd] at hz'; cases hz'
            | some d => rw [hd] at hz'; simp at hz'; subst hz'; rfl
          · rw [List.getElem?_append_right (by simp; omega)] at hz' ⊢
            generalize j - (F.cells base L).length - ((F.pre x).map V.d).length = i at hz' ⊢
            cases i with
            | zero =>
              simp at hz'
              subst hz'
              refine ⟨_, rfl, ?_⟩
              have := Cv.own (s := s) (s' := ⟨s.n, s.T, (r, { row with cells := F.cells base (L ++ [x]) }) :: lits.filter (fun x => x.1 != z) ++ F.objs base (L ++ [x]), s.K⟩) (ρ := fun k => if k = base + L.length then z else k) (base + L.length) F.sz (F.it x).length (F.it x).isEmpty
              simpa [Fam.ownV] using this
            | succ i => simp at hz'
    · have h2 := hlitfnd _ _ h1
      cases hnn : row'.nil with
      | true => exact .inl ⟨rfl, hs.nul r row' h2 hnn⟩
      | false =>
        refine .inr ⟨rfl, row', by rw [if_neg (by omega)]; exact h2, hnn, rfl, rfl, fun j v hv => ⟨v, hv, .same v (hρ v ?_)⟩⟩
        exact V.hasL_false.1 (hlo2 _ (fnd_mem h1) e1 _ (by omega)) v (List.mem_of_getElem? hv)
    · have hpl := (List.getElem?_eq_some_iff.1 hy).1
      have h2 := hobj p y hy
      cases hnn : (F.row y).nil with
      | true => exact .inl ⟨rfl, hs.nul _ _ h2 hnn⟩
      | false =>
        refine .inr ⟨rfl, _, by rw [if_neg (by omega)]; exact h2, hnn, rfl, rfl, fun j v hv => ⟨v, hv, .same v (hρ v ?_)⟩⟩
        exact V.hasL_false.1 (F.row_hasL y _) v (List.mem_of_getElem? hv)
    · have h2 := hlitfnd _ _ hz
      cases hnn : (F.row x).nil with
      | true => exact .inl ⟨rfl, hs.nul _ _ h2 hnn⟩
      | false =>
        refine .inr ⟨rfl, _, by rw [if_pos rfl]; exact h2, hnn, rfl, rfl, fun j v hv => ⟨v, hv, .same v (hρ v ?_)⟩⟩
        exact V.hasL_false.1 (F.row_hasL x _) v (List.mem_of_getElem? hv)
  · intro j v hv
    exact ⟨v, hv, .same v (hρ v (V.low_has (b := base) (by omega) v (by
      have : ∀ (l : List V), V.lowL base l = true → ∀ u ∈ l, u.low base = true := by
        intro l
        induction l with
        | nil => intro _ u hu; cases hu
        | cons y l ih =>
          intro hl u hu
          simp only [V.lowL, Bool.and_eq_true] at hl
          rcases List.mem_cons.1 hu with rfl | hu
          · exact hl.1
          · exact ih hl.2 u hu
      exact this _ hK2 v (List.mem_of_getElem? hv))))⟩
  · intro r r' row1 row2 h1 n1 h2 n2 e
    rcases hfo r row1 h1 with ⟨rfl, _⟩ | ⟨a1, a2, a3, _⟩ | ⟨p, y, ⟨rfl, hy, _⟩ | ⟨rfl, _⟩⟩ <;> rcases hfo r' row2 h2 with ⟨rfl, _⟩ | ⟨b1, b2, b3, _⟩ | ⟨p', y', ⟨rfl, hy', _⟩ | ⟨rfl, _⟩⟩ <;>
      (try have hpl := (List.getElem?_eq_some_iff.1 hy).1) <;> (try have hpl' := (List.getElem?_eq_some_iff.1 hy').1) <;> (try dsimp only at e) <;> (try split at e) <;> (try split at e) <;> omega
theorem AW.famPush {code : Code} (lits : List (Nat × Row)) (rb z : Nat) (x : β) {base : Nat} {L : List β} {row : Row} (hH : s.H = lits ++ F.objs base L) (hr : fnd lits rb = some row) (hn : row.nil = false) (hz : fnd lits z = some (F.row x)) (hc : row.cells = F.cells base L ++ ((F.pre x).map V.d ++ [.own z F.sz (F.it x).length (F.it x).isEmpty])) (hzr : z ≠ rb) (hlow : lits.all (fun x => decide (x.1 < base)) = true)
    (hlo : ∀ x ∈ lits, x.1 ≠ rb → V.hasL z x.2.cells = false) (hT : s.T.all (fun x => !x.2.has z) = true) (hK : V.hasL z s.K = false) (hlo2 : ∀ x ∈ lits, x.1 ≠ rb → ∀ r, base ≤ r → V.hasL r x.2.cells = false) (hT2 : s.T.all (fun x => x.2.low base) = true) (hK2 : V.lowL base s.K = true)
    (h : AW c code Q ⟨s.n, s.T, (rb, { row with cells := F.cells base (L ++ [x]) }) :: lits.filter (fun x => x.1 != z) ++ F.objs base (L ++ [x]), s.K⟩) : AW c code Q s := fun g a w hs =>
  let ⟨g', h'⟩ := Sim.famPush hs lits rb z x hH hr hn hz hc hzr hlow hlo hT hK hlo2 hT2 hK2
  h g' a w h'
end

theorem LH.self {n : Nat} {T : List (Nat × V)} {H : List (Nat × Row)} {K : List V} (hk : ∀ r row, fnd H r = some row → True) : ∀ {l : List (Nat × Row)}, (∀ i row, (i, row) ∈ l → fnd H i = some row) → LH ⟨n, T, H, K⟩ l
  | [], _ => trivial
  | (i, row) :: l, h => ⟨h i row (by simp), LH.self hk fun j r hj => h j r (by simp [hj])⟩
theorem Fam.objs_mem {β : Type} {F : Fam β} : ∀ (l : List β) (k i : Nat) (row : Row), (i, row) ∈ F.objs k l → k ≤ i ∧ fnd (F.objs k l) i = some row
  | [], k, i, row, h => by simp [Fam.objs] at h
  | x :: l, k, i, row, h => by
    simp only [Fam.objs, List.mem_cons, Prod.mk.injEq] at h
    rcases h with ⟨rfl, rfl⟩ | h
    · exact ⟨Nat.le_refl _, by simp [Fam.objs, fnd]⟩
    · obtain ⟨h1, h2⟩ := Fam.objs_mem l (k + 1) i row h
      refine ⟨by omega, ?_⟩
      rw [Fam.objs, fnd, if_neg (by simp; omega), h2]
/-- A state's growing slices are among another's. -/
theorem LH.fam {β : Type} {F : Fam β} {n base : Nat} {L : List β} {T : List (Nat × V)} {K : List V} : LH ⟨n, T, F.objs base L, K⟩ (F.objs base L) := LH.self (fun _ _ _ => trivial) fun i row h => (Fam.objs_mem L base i row h).2
theorem LH.skip {β : Type} {F : Fam β} {n base r : Nat} {L : List β} {row : Row} {T : List (Nat × V)} {H : List (Nat × Row)} {K : List V} (hr : r < base) (h : LH ⟨n, T, H, K⟩ (F.objs base L)) : LH ⟨n, T, (r, row) :: H, K⟩ (F.objs base L) := by
  refine LH.self (fun _ _ _ => trivial) fun i row' hm => ?_
  have h1 := (Fam.objs_mem L base i row' hm).1
  rw [fnd, if_neg (by simp; omega)]
  have : ∀ (l : List (Nat × Row)), LH ⟨n, T, H, K⟩ l → ∀ i row, (i, row) ∈ l → fnd H i = some row := by
    intro l
    induction l with
    | nil => intro _ i row h; cases h
    | cons x l ih =>
      intro hl i row hm
      rcases List.mem_cons.1 hm with e | hm
      · subst e; exact hl.1
      · exact ih hl.2 i row hm
  exact this _ h i row' hm
theorem low_ownV {β : Type} (F : Fam β) (b p : Nat) (x : β) : (F.ownV (b + p) x).low b = false := by simp [Fam.ownV, V.low]
theorem has_ownV {β : Type} (F : Fam β) (k r : Nat) (x : β) : (F.ownV k x).has r = (k == r) := rfl
theorem objs_clean_low {β : Type} (F : Fam β) {l : List β} {k r : Nat} (h : r < k) : (F.objs k l).all (fun x => x.1 != r && !V.hasL r x.2.cells) = true := Fam.objs_clean l k r h
theorem objs_filter_low {β : Type} (F : Fam β) {l : List β} {k r : Nat} (h : r < k) : (F.objs k l).filter (fun x => x.1 != r) = F.objs k l := Fam.objs_filter l k r h
theorem cells_hasL_low {β : Type} (F : Fam β) {l : List β} {k r : Nat} (h : r < k) : V.hasL r (F.cells k l) = false := Fam.cells_hasL l k r h
theorem nb1 {a b p : Nat} (h : a < b) : (a = b + p) = False := by simp; omega
theorem nb2 {a b p : Nat} (h : a < b) : (b + p = a) = False := by simp; omega
theorem nb3 {a b p : Nat} (h : a < b) : (a == b + p) = false := by simp; omega
theorem nb4 {a b p : Nat} (h : a < b) : (b + p == a) = false := by simp; omega
theorem hasL_frep {r n : Nat} {zs : List V} (h : V.hasL r zs = false) : V.hasL r (List.replicate n zs).flatten = false := by
  induction n with
  | zero => rfl
  | succ n ih => rw [List.replicate_succ, List.flatten_cons, hasL_append, h, ih]; rfl
end Go.Proofs.YtkikceoccmoanaaGreatDoor
namespace Go.Proofs.YtkikceoccmoanaaGreatDoor
open Go.RowKit
set_option linter.unusedSimpArgs false
set_option linter.unusedVariables false

/-- Blocks are as they were but those of e. -/
def BX (e : Nat → Prop) (N : Nat) (W w : World) : Prop := N ≤ w.heap.size ∧ ∀ k, k < N → ¬ e k → w.heap[k]? = W.heap[k]?
structure Ex (c : Cx) (g : Nat → Nat × Nat) (s : S) (r : Nat) (e : Nat → Prop) (w : World) : Prop where
  obj : ∀ k row, k ≠ r → fnd s.H k = some row → row.nil = false → ¬ e (g k).1
  quiet : ∀ k, qt c s.H g k → k < w.heap.size → ¬ e k
  own : ∀ row, fnd s.H r = some row → row.nil = false → e (g r).1

section
variable {c : Cx} {s : S} {o : Oper} {Q : Exit → S → Prop} {g : Nat → Nat × Nat} {a : Act} {w : World} {L : List Oper} {need : Nat → Bool} {l : List (Nat × Bool)} {i r : Nat} {e : Nat → Prop}

theorem BX.cell {N : Nat} {W w : World} {b k : Nat} {v : Value} (h : BX e N W w) (hb : b < N) (he : ¬ e b) (hv : W.cell? ⟨b, k, none⟩ = some v) : w.cell? ⟨b, k, none⟩ = some v := (World.cell?_of_block (w := W) (a := ⟨b, k, none⟩) (h.2 b hb he)).trans hv

/-- A read that does not look at object r. -/
def RX (c : Cx) (o : Oper) (s : S) (r : Nat) (v : V) : Prop := ∀ e g a w, Sim c g s a w → Ex c g s r e w → ∃ x, VRep w (qt c s.H g) g v x ∧ ∀ w', BX e w.heap.size w w' → (execOp a.eval o).run c.P w' = .ok (.value x) w'
theorem RP.rx {v : V} (h : RP c o s v) : RX c o s r v := fun e g a w hs _ => by
  obtain ⟨x, h1, h2⟩ := h g a w hs
  exact ⟨x, h1, fun w' _ => h2 w'⟩
theorem rx_load_ref {t : TypeId} {d : TypeDesc} {x : Operand} {r0 k : Nat} {row : Row} {v : V} (hu : c.P.underlying t = some d) (hd : isAggD d = false) (ho : o.op = .load t x) (hx : s.ev x = some (.ref r0 k)) (hr : fnd s.H r0 = some row) (hn : row.nil = false) (hv : row.cells[k]? = some v) (hne : r0 ≠ r) : RX c o s r v := fun e g a w hs he => by
  have h := hs.ev hx
  obtain ⟨arr, h1, _, h2⟩ := hs.obj r0 row hr hn
  obtain ⟨y, h3, h4⟩ := h2 k v hv
  refine ⟨y, h4, fun w' hb => ?_⟩
  have hlt : (g r0).1 < w.heap.size := (Array.getElem?_eq_some_iff.1 h1).1
  have hcell : w'.cell? ⟨(g r0).1, k, none⟩ = some y := hb.cell hlt (he.obj r0 row hne hr hn) ((cell_of_row w _ _ _ _ _ h1).trans h3)
  generalize hy : a.eval x = z at h
  cases h
  simp [execOp, ho, hy, Instr.loadAt, Instr.sureAddr, loadVar, run_isAgg hu, hd, hcell]
theorem rx_load_ad {t : TypeId} {d : TypeDesc} {x : Operand} {row : List D} {v : D} (hu : c.P.underlying t = some d) (hd : isAggD d = false) (ho : o.op = .load t x) (hx : s.ev x = some (.ad row)) (hv : row[0]? = some v) : RX c o s r (.d v) := fun e g a w hs he => by
  have h := hs.ev hx
  generalize hy : a.eval x = z at h
  cases h with
  | ad _ b o' f hq hc hr =>
    refine ⟨f 0, .d _ _ (hr 0 v hv), fun w' hb => ?_⟩
    have hcell : w'.cell? ⟨b, o', none⟩ = some (f 0) := hb.cell hq.2 (he.quiet b hq.1 hq.2) (hc 0 v hv)
    simp [execOp, ho, hy, Instr.loadAt, Instr.sureAddr, loadVar, run_isAgg hu, hd, hcell]
theorem rx_load_fam {β : Type} {F : Fam β} {t : TypeId} {d : TypeDesc} {x : Operand} {rb k p m base : Nat} {row : Row} {L : List β} {x0 : β} (hu : c.P.underlying t = some d) (hd : isAggD d = false) (ho : o.op = .load t x) (hx : s.ev x = some (.ref rb k)) (hr : fnd s.H rb = some row) (hn : row.nil = false) (hc : row.cells = F.cells base L) (hm : ∀ x, (F.pre x).length = m) (hk : k = p * (m + 1) + m) (hp : L[p]? = some x0) (hne : rb ≠ r) : RX c o s r (F.ownV (base + p) x0) :=
  rx_load_ref hu hd ho hx hr hn (by rw [hc, hk]; exact Fam.cells_own hm L base p x0 hp) hne
/-- First come the reads that do not look at r. -/
def AE1 (c : Cx) (ops : Array Oper) (Q : Exit → S → Prop) (need : Nat → Bool) (r : Nat) (l : List (Nat × Bool)) (s : S) : Prop := ∀ e g a w, Sim c g s a w → Ex c g s r e w → (∀ k, e k → k < w.heap.size) → ASeq c.P ops (QQ c Q) (BX e w.heap.size w) need l a w
/-- Then new memory, and r grows. -/
def AE2 (c : Cx) (ops : Array Oper) (Q : Exit → S → Prop) (need : Nat → Bool) (r : Nat) (l : List (Nat × Bool)) (s : S) : Prop := ∀ W e g a w, Sim c g s a w → Ex c g s r e w → BX e W.heap.size W w → (∀ k, e k → k < W.heap.size) → ASeq c.P ops (QQ c Q) (BX e W.heap.size W) need l a w

theorem Ex.put {d : Option Tmp} {v : V} (h : Ex c g s r e w) : Ex c g (s.put d v) r e w := by
  cases d with
  | none => exact h
  | some d => exact ⟨h.obj, h.quiet, h.own⟩
theorem BX.refl (w : World) : BX e w.heap.size w w := ⟨Nat.le_refl _, fun _ _ _ => rfl⟩
theorem AW.drawX {id : Nat} {l : List Oper} (r : Nat) (order : List (Nat × Bool)) (need : Nat → Bool) (N : Nat) (hm : c.P.follows .mixedOrders = true) (hsel : Region.noSelect l.toArray = true) (hlen : order.length = l.length)
    (hok : okS .any l.toArray need N order (Array.replicate l.length false) = true) (h : AE1 c l.toArray Q need r order s) : AW c (.region id l.toArray true) Q s := by
  intro g a w hs
  refine wp_region_any hm ?_
  have hs' : Sim c g s a w.drew := hs.move (Below.drew (Below.refl _ _))
  have hex : Ex c g s r (fun k => ∃ row, fnd s.H r = some row ∧ row.nil = false ∧ (g r).1 = k) w.drew := by
    refine ⟨fun k row hk h1 h2 h3 => ?_, fun k hk _ h3 => ?_, fun row h1 h2 => ⟨row, h1, h2, rfl⟩⟩
    · obtain ⟨row2, h4, h5, h6⟩ := h3
      exact hk (hs'.inj k r row row2 h1 h2 h4 h5 h6.symm)
    · obtain ⟨row2, h4, h5, h6⟩ := h3
      exact hk.2 r row2 h4 h5 h6
  have hlt : ∀ k, (∃ row, fnd s.H r = some row ∧ row.nil = false ∧ (g r).1 = k) → k < w.drew.heap.size := by
    rintro k ⟨row, h1, h2, rfl⟩
    obtain ⟨arr, h3, _⟩ := hs'.obj r row h1 h2
    exact (Array.getElem?_eq_some_iff.1 h3).1
  have := any_of_anyN _ _ _ _ (anyN_of_ASeq (P := c.P) (Q := QQ c Q) (T := BX _ w.drew.heap.size w.drew) (need := need) (md := .any) hsel order (Array.replicate l.length false) a w.drew (by
    intro j oj _ hl
    rw [Array.getD_eq_getD_getElem?, Array.getElem?_replicate] at hl
    split at hl <;> simp at hl) hok (h _ g a _ hs' hex hlt))
  rw [hlen] at this
  simpa using this
theorem AE1.rx {v : V} (hi : L[i]? = some o) (hg : o.guard = none) (hd : dok s o = true) (hp : noP Q) (h : RX c o s r v) (hN : AE1 c L.toArray Q need r l (s.put o.dst v)) : AE1 c L.toArray Q need r ((i, true) :: l) s := fun e g a w hs he hl => by
  obtain ⟨x, h1, h2⟩ := h e g a w hs he
  exact ⟨o, x, by simpa using hi, .inl ⟨by simp [Region.wanted, hg], h2⟩, BX.refl _, QQ_noP hp _ _, hN e g _ w (hs.put o.dst (dok_spec hd) h1) he.put hl⟩
theorem AE1.rp {v : V} (hi : L[i]? = some o) (hg : o.guard = none) (hd : dok s o = true) (hp : noP Q) (h : RP c o s v) (hN : AE1 c L.toArray Q need r l (s.put o.dst v)) : AE1 c L.toArray Q need r ((i, true) :: l) s := AE1.rx hi hg hd hp h.rx hN
theorem AE1.go (h : AE2 c L.toArray Q need r l s) : AE1 c L.toArray Q need r l s := fun e g a w hs he hl => h w e g a w hs he (BX.refl _) hl
theorem AE2.sm {r' : Nat} {row : Row} {v : V} (hi : L[i]? = some o) (hg : o.guard = none) (h : StepG c o s r' (fun s' => s' = s.newObj r' row o.dst v)) (hne : r' ≠ r) (hN : AE2 c L.toArray Q need r l (s.newObj r' row o.dst v)) : AE2 c L.toArray Q need r ((i, false) :: l) s := fun W e g a w hs he hb hl =>
  wpOp_of (by simpa using hi) hg (h g a w hs _ _ fun g' s' a' w' h1 h2 h3 h4 h5 => by
    subst h1
    have hsz := hb.1
    have hbx : BX e W.heap.size W w' := ⟨Nat.le_trans hb.1 h3.size, fun k hk hn => (h3.block k (by omega)).trans (hb.2 k hk hn)⟩
    refine ⟨fun _ => hbx, hN W e g' a' w' h2 (Ex.put (s := { s with H := (r', row) :: s.H }) ⟨fun k row' hk h6 h7 => ?_, fun k hk hkl => ?_, fun row' h6 h7 => ?_⟩) hbx hl⟩
    · simp only [fnd] at h6
      by_cases hkr : r' = k
      · subst hkr
        intro h8
        have := hl _ h8
        omega
      · rw [if_neg (by simpa using hkr)] at h6
        rw [h4 k (Ne.symm hkr)]
        exact he.obj k row' hk h6 h7
    · intro h8
      have h9 := hl k h8
      refine he.quiet k ⟨hk.1, fun r2 row2 h10 h11 h12 => ?_⟩ (by omega) h8
      by_cases hr2 : r2 = r'
      · subst hr2
        -- an old object of that name: it would lie in the new one's place
        have : fnd s.H r2 = none ∨ ∃ x, fnd s.H r2 = some x := by cases fnd s.H r2 <;> simp
        have hne2 : e (g r2).1 := by rw [h12]; exact h8
        exact he.obj r2 row2 hne h10 h11 hne2
      · refine hk.2 r2 row2 ?_ h11 (by rw [h4 r2 hr2]; exact h12)
        have e1 : (S.newObj s r' row o.dst v).H = (r', row) :: s.H := by cases o.dst <;> rfl
        simp only [fnd]
        rw [if_neg (by simpa using Ne.symm hr2)]
        exact h10
    · simp only [fnd] at h6
      rw [if_neg (by simpa using hne)] at h6
      rw [h4 r (Ne.symm hne)]
      exact he.own row' h6 h7)
theorem AE2.st {X : S} (hi : L[i]? = some o) (hg : o.guard = none) (h : StepX c o s r (fun s' => s' = X)) (hN : AD3 c L.toArray Q need l X) : AE2 c L.toArray Q need r ((i, false) :: l) s := fun W e g a w hs he hb hl =>
  wpOp_of (by simpa using hi) hg (h g a w hs _ _ fun g' s' a' w' h1 h2 h3 => by
    subst h1
    have hsz := hb.1
    refine ⟨fun _ => ⟨Nat.le_trans hb.1 h3.1, fun k hk hn => (h3.2 k (by omega) fun row h4 h5 h6 => ?_).trans (hb.2 k hk hn)⟩, hN _ g' a' w' h2⟩
    subst h6
    exact hn (he.own row h4 h5))
end
end Go.Proofs.YtkikceoccmoanaaGreatDoor
namespace Go.Proofs.YtkikceoccmoanaaGreatDoor
open Go.RowKit
set_option linter.unusedSimpArgs false
set_option linter.unusedVariables false

/-- The objects H, new since N, among blocks that are quiet as q says. -/
structure Objs (w : World) (q : Nat → Prop) (N : Nat) (g : Nat → Nat × Nat) (H : List (Nat × Row)) : Prop where
  nul : ∀ r row, fnd H r = some row → row.nil = true → row.cells = []
  obj : ∀ r row, fnd H r = some row → row.nil = false → ∃ arr : Array Value, w.heap[(g r).1]? = some (.cells arr row.ty (0, 0)) ∧ (row.sz ≠ 0 → arr.size = (g r).2 * row.sz) ∧ ∀ (j : Nat) (v : V), row.cells[j]? = some v → ∃ x, arr[j]? = some x ∧ VRep w (fun b => q b ∧ ∀ r row, fnd H r = some row → row.nil = false → (g r).1 ≠ b) g v x
  inj : ∀ r r' row row', fnd H r = some row → row.nil = false → fnd H r' = some row' → row'.nil = false → (g r).1 = (g r').1 → r = r'
  new : ∀ r row, fnd H r = some row → row.nil = false → N ≤ (g r).1
  closed : ∀ r row k, fnd H r = some row → V.hasL k row.cells = true → ∃ row', (k, row') ∈ H

def FnO (P : Program) (f : FuncId) (args : List V) (post : V → List (Nat × Row) → Prop) : Prop := ∀ (w : World) (out : Nat → Prop) (g : Nat → Nat × Nat) (xs : List Value), (∀ b, out b → b < w.heap.size) → VReps w (fun b => ¬ out b) g args xs →
  Calls P f xs.toArray w fun e w' => ∃ v x g' H, e = .returned x ∧ post v H ∧ (∀ k, v.has k = true → ∃ row', (k, row') ∈ H) ∧ Objs w' (fun b => ¬ out b) w.heap.size g' H ∧ VRep w' (fun b => ¬ out b ∧ ∀ r row, fnd H r = some row → row.nil = false → (g' r).1 ≠ b) g' v x ∧ Below w.heap.size w w'

def QFO (P : Program) (rs : List ResultVar) (post : V → List (Nat × Row) → Prop) : Exit → S → Prop
  | .normal, s => ∃ vs H, resL P s rs vs ∧ LH s H ∧ post (tupOf vs) H ∧ (∀ k, (tupOf vs).has k = true → ∃ row', (k, row') ∈ H) ∧ ∀ r row k, fnd H r = some row → V.hasL k row.cells = true → ∃ row', (k, row') ∈ H
  | .ret, s => ∃ vs H, resL P s rs vs ∧ LH s H ∧ post (tupOf vs) H ∧ (∀ k, (tupOf vs).has k = true → ∃ row', (k, row') ∈ H) ∧ ∀ r row k, fnd H r = some row → V.hasL k row.cells = true → ∃ row', (k, row') ∈ H
  | _, _ => False

theorem FnO.intro {P : Program} {f : FuncId} {fn : Func} {code : Code} {n : Nat} {rs : List ResultVar} {args : List V} {post : V → List (Nat × Row) → Prop} (hf : Is P f fn code n rs) (hp : ∀ v ∈ args, v.pure) (hn : args.length ≤ n)
    (h : ∀ w0 out, AW ⟨P, w0, out, [], []⟩ code (QFO P rs post) ⟨n, enum 0 args, [], []⟩) : FnO P f args post := by
  intro w out g xs hout hx
  refine calls_of_wp hf.func hf.body ?_
  have hs : Sim ⟨P, w, out, [], []⟩ g ⟨n, enum 0 args, [], []⟩ { tmps := xs.toArray ++ Array.replicate (fn.ntmps - xs.toArray.size) undef, defers := [] } w := by
    refine ⟨?_, rfl, ?_, by simp [fnd], by simp [fnd], by simp, by simp [fnd], by simp [fnd], hout, Below.refl _ _⟩
    · simp [hf.ntmps, ← hx.1]; omega
    · intro i v hv
      obtain ⟨_, h2⟩ := fnd_enum args 0 i v hv
      simp only [Nat.sub_zero] at h2
      have hi : i < xs.length := by rw [← hx.1]; exact (List.getElem?_eq_some_iff.1 h2).1
      refine ⟨xs[i], ?_, ?_⟩
      · rw [hf.ntmps]
        exact enter_get (List.getElem?_eq_getElem hi) (by rw [← hx.1]; exact hn)
      · refine (hx.2 i v _ h2 (List.getElem?_eq_getElem hi)).mono Cells.rfl (fun b hb _ => ⟨hb, by simp [fnd]⟩) (fun r _ => rfl)
  refine wp_mono (h w out g _ w hs) fun e a' w' hq => ?_
  obtain ⟨g', s', h1, h2⟩ := hq
  have fin : (∃ vs H, resL P s' rs vs ∧ LH s' H ∧ post (tupOf vs) H ∧ (∀ k, (tupOf vs).has k = true → ∃ row', (k, row') ∈ H) ∧ ∀ r row k, fnd H r = some row → V.hasL k row.cells = true → ∃ row', (k, row') ∈ H) →
      a'.defers = [] ∧ ∃ v, (results fn a'.tmps).run P w' = .ok v w' ∧ ∃ v_1 x g' H, Ending.returned v = .returned x ∧ post v_1 H ∧ (∀ k, v_1.has k = true → ∃ row', (k, row') ∈ H) ∧ Objs w' (fun b => ¬ out b) w.heap.size g' H ∧ VRep w' (fun b => ¬ out b ∧ ∀ r row, fnd H r = some row → row.nil = false → (g' r).1 ≠ b) g' v_1 x ∧ Below w.heap.size w w' := by
    rintro ⟨vs, H, k1, k2, k3, k4, k5⟩
    obtain ⟨x, k6, k7⟩ := run_results (c := ⟨P, w, out, [], []⟩) hf.results h2 k1
    have hq : ∀ b, qt ⟨P, w, out, [], []⟩ s'.H g' b → b < w'.heap.size → ¬ out b ∧ ∀ r row, fnd H r = some row → row.nil = false → (g' r).1 ≠ b := fun b hb _ => ⟨hb.1, fun r row hr hn => hb.2 r row (k2.get r row hr) hn⟩
    have hm : ∀ {v x}, VRep w' (qt ⟨P, w, out, [], []⟩ s'.H g') g' v x → VRep w' (fun b => ¬ out b ∧ ∀ r row, fnd H r = some row → row.nil = false → (g' r).1 ≠ b) g' v x := fun hv => hv.mono Cells.rfl hq (fun _ _ => rfl)
    refine ⟨h2.defers, x, k7, _, x, g', H, rfl, k3, k4, ⟨fun r row hr hn => h2.nul r row (k2.get r row hr) hn, fun r row hr hn => ?_, fun r r' row row' a1 a2 a3 a4 a5 => h2.inj r r' row row' (k2.get r row a1) a2 (k2.get r' row' a3) a4 a5, fun r row hr hn => h2.base r row (k2.get r row hr) hn, k5⟩, hm k6, h2.below⟩
    obtain ⟨arr, a1, a2, a3⟩ := h2.obj r row (k2.get r row hr) hn
    refine ⟨arr, a1, a2, fun j v hv => ?_⟩
    obtain ⟨y, a4, a5⟩ := a3 j v hv
    exact ⟨y, a4, hm a5⟩
  cases e with
  | normal => exact fin h1
  | ret => exact fin h1
  | _ => exact h1.elim

section
variable {c : Cx} {s : S} {o : Oper}

end
theorem FnO.mach {P : Program} {f : FuncId} {args : List V} {post : V → List (Nat × Row) → Prop} (m : Mach) (j : Nat) (hj : args[j]? = some (mV m)) (h : m.states.length ≤ 4398046511104 → (∀ x ∈ m.states, x.arcs.length ≤ 4398046511104) → FnO P f args post) : FnO P f args post := by
  intro w out g xs ho hx
  have hlt : j < xs.length := by rw [← hx.1]; exact (List.getElem?_eq_some_iff.1 hj).1
  have hv := hx.2 j _ _ hj (List.getElem?_eq_getElem hlt)
  generalize xs[j] = y at hv
  cases hv with
  | agg _ cs hl hh =>
    have hc : 1 < cs.length := by simp at hl; omega
    have h1 := hh 1 _ cs[1] rfl (List.getElem?_eq_getElem hc)
    cases h1 with
    | d _ _ h2 =>
      have h3 := h2.bound
      simp only [List.length_map] at h3
      refine h (by omega) (fun x hx => ?_) w out g xs ho hx
      obtain ⟨i, hi⟩ := List.getElem?_of_mem hx
      obtain ⟨z, h4⟩ := h2.row (i := i) (j := 1) (row := stD x) (by simp [hi]) rfl
      have h5 := h4.bound
      simp only [List.length_map] at h5
      omega
theorem flat_at {α : Type} {enc : α → List V} {sz : Nat} (hsz : ∀ x, (enc x).length = sz) : ∀ (W : List α) (k j : Nat) (x : α) (v : V), W[k]? = some x → (enc x)[j]? = some v → (W.flatMap enc)[k * sz + j]? = some v
  | [], k, j, x, v, h, _ => by simp at h
  | y :: W, 0, j, x, v, h, hv => by
    simp at h
    subst h
    rw [List.flatMap_cons, Nat.zero_mul, Nat.zero_add, List.getElem?_append_left (List.getElem?_eq_some_iff.1 hv).1, hv]
  | y :: W, k + 1, j, x, v, h, hv => by
    have := flat_at hsz W k j x v (by simpa using h) hv
    rw [List.flatMap_cons, List.getElem?_append_right (by rw [hsz, Nat.succ_mul]; omega), hsz, show (k + 1) * sz + j - sz = k * sz + j by rw [Nat.succ_mul]; omega, this]
section
variable {c : Cx} {s : S} {o : Oper} {α : Type}
theorem rd_load_flat {t : TypeId} {d : TypeDesc} {x : Operand} {r k j sz : Nat} {row : Row} {W : List α} {enc : α → List V} {y : α} {v : V} (hu : c.P.underlying t = some d) (hd : isAggD d = false) (ho : o.op = .load t x) (hx : s.ev x = some (.ref r (k * sz + j))) (hr : fnd s.H r = some row) (hn : row.nil = false) (hc : row.cells = W.flatMap enc) (hsz : ∀ x, (enc x).length = sz) (hl : W[k]? = some y) (hv : (enc y)[j]? = some v) : RD c o s v :=
  rd_load_ref hu hd ho hx hr hn (by rw [hc]; exact flat_at hsz W k j y v hl hv)
theorem rp_nilCheck_ad {x : Operand} {row : List D} (ho : o.op = .nilCheck x) (hx : s.ev x = some (.ad row)) : RP c o s (.ad row) := fun g a w hs => by
  have h := hs.ev hx
  refine ⟨a.eval x, h, fun w' => ?_⟩
  generalize hy : a.eval x = y at h
  cases h
  simp [execOp, ho, hy]
end
end Go.Proofs.YtkikceoccmoanaaGreatDoor
namespace Go.Proofs.YtkikceoccmoanaaGreatDoor
open Go.RowKit
set_option linter.unusedSimpArgs false
set_option linter.unusedVariables false

section
variable {c : Cx} {s : S} {o : Oper} {Q : Exit → S → Prop}
end
end Go.Proofs.YtkikceoccmoanaaGreatDoor
namespace Go.Proofs.YtkikceoccmoanaaGreatDoor
open Go.RowKit
set_option linter.unusedSimpArgs false
set_option linter.unusedVariables false

section
variable {c : Cx} {s : S} {o : Oper} {Q : Exit → S → Prop} {L : List Oper} {need : Nat → Bool} {l : List (Nat × Bool)} {i r : Nat}

/-- A store in place: only the block of object r has turned. -/
def StepS (c : Cx) (o : Oper) (s : S) (r : Nat) (row' : Row) : Prop := ∀ g a w, Sim c g s a w → ∀ (K : Act → World → Prop) (Q : Exit → Act → World → Prop),
  (∀ a' w', Sim c g { s with H := (r, row') :: s.H } a' w' → (w'.heap.size = w.heap.size ∧ ∀ k, k ≠ (g r).1 → w'.heap[k]? = w.heap[k]?) → K a' w') → o.wp c.P a w K Q
theorem AE2.rp1 {v : V} (hi : L[i]? = some o) (hg : o.guard = none) (hd : dok s o = true) (h : RP c o s v) (hN : AE2 c L.toArray Q need r l (s.put o.dst v)) : AE2 c L.toArray Q need r ((i, false) :: l) s := fun W e g a w hs he hb hl =>
  wpOp_of (by simpa using hi) hg (by
    obtain ⟨x, h1, h2⟩ := h g a w hs
    unfold Oper.wp
    rw [h2 w]
    exact ⟨fun _ => hb, hN W e g _ w (hs.put o.dst (dok_spec hd) h1) he.put hb hl⟩)
theorem AE2.nil (h : Q .normal s) : AE2 c L.toArray Q need r [] s := fun W e g a w hs _ _ _ => ⟨g, s, h, hs⟩

/-- The guard's own operation was passed over: so is this one. -/
def und (ops : Array Oper) (s : S) (j : Nat) : Prop := ∃ d, (ops[j]?).bind (·.dst) = some d ∧ fnd s.T d = some (.d (.p undef))
theorem und_spec {ops : Array Oper} {j : Nat} {g : Nat → Nat × Nat} {a : Act} {w : World} (h : und ops s j) (hs : Sim c g s a w) : yielded ops a.tmps j = none := by
  obtain ⟨d, h1, h2⟩ := h
  obtain ⟨x, h3, h4⟩ := hs.tmp d _ h2
  have := VRep.p_eq h4
  subst this
  simp [yielded, h1, h3, undef]
theorem AL.noV {ops : Array Oper} {rest : List Oper} {j : Nat} {b b' : Bool} (hg : o.guard = some (j, b)) (hy : yld ops s j = some b') (hb : (b' == b) = false) (hd : dok s o = true) (h : AL c ops rest Q (s.put o.dst (.d (.p undef)))) : AL c ops (o :: rest) Q s := fun g a w hs =>
  wpList_step fun K hK => by
    have hw : ¬ Region.wanted o (yielded ops a.tmps) = true := by
      simp only [Region.wanted, hg, yld_spec hy hs]
      simpa using hb
    rw [if_neg hw]
    exact hK _ _ (h g _ w (hs.put o.dst (dok_spec hd) (.d _ _ (.p _))))
theorem AL.noU {ops : Array Oper} {rest : List Oper} {j : Nat} {b : Bool} (hg : o.guard = some (j, b)) (hy : und ops s j) (hd : dok s o = true) (h : AL c ops rest Q (s.put o.dst (.d (.p undef)))) : AL c ops (o :: rest) Q s := fun g a w hs =>
  wpList_step fun K hK => by
    have hw : ¬ Region.wanted o (yielded ops a.tmps) = true := by
      simp only [Region.wanted, hg, und_spec hy hs]
      simp
    rw [if_neg hw]
    exact hK _ _ (h g _ w (hs.put o.dst (dok_spec hd) (.d _ _ (.p _))))
theorem AD1.noV {j : Nat} {b b' : Bool} (hi : L[i]? = some o) (hg : o.guard = some (j, b)) (hy : yld L.toArray s j = some b') (hb : (b' == b) = false) (hd : dok s o = true) (hp : noP Q) (hN : AD1 c L.toArray Q need l (s.put o.dst (.d (.p undef)))) : AD1 c L.toArray Q need ((i, true) :: l) s := fun g a w hs =>
  ⟨o, undef, by simpa using hi, .inr ⟨by simp only [Region.wanted, hg, yld_spec hy hs]; simpa using hb, rfl⟩, Below.refl _ _, QQ_noP hp _ _, hN g _ w (hs.put o.dst (dok_spec hd) (.d _ _ (.p _)))⟩
theorem AD1.noU {j : Nat} {b : Bool} (hi : L[i]? = some o) (hg : o.guard = some (j, b)) (hy : und L.toArray s j) (hd : dok s o = true) (hp : noP Q) (hN : AD1 c L.toArray Q need l (s.put o.dst (.d (.p undef)))) : AD1 c L.toArray Q need ((i, true) :: l) s := fun g a w hs =>
  ⟨o, undef, by simpa using hi, .inr ⟨by simp only [Region.wanted, hg, und_spec hy hs]; simp, rfl⟩, Below.refl _ _, QQ_noP hp _ _, hN g _ w (hs.put o.dst (dok_spec hd) (.d _ _ (.p _)))⟩

theorem run_equal_ptr {P : Program} {t e : TypeId} (hu : P.underlying t = some (.pointer e)) (a : Option Addr) (w : World) : (Op.equal t (.pointer a) (.pointer none)).run P w = .ok a.isNone w := by
  have h : ∀ d : Nat, (Op.equalIn (d + 1) t (.pointer a) (.pointer none)).run P w = .ok a.isNone w := fun d => by
    cases a <;> simp [Op.equalIn, run_underlying hu]
  exact h 9999
theorem rp_ptr {t t' e : TypeId} {op : BinOp} {x y : Operand} {v : V} {b : Bool} (hop : op = .eql ∨ op = .neq) (hu : c.P.underlying t = some (.pointer e)) (ho : o.op = .binOp op t x y t') (hx : s.ev x = some v) (hy : s.ev y = some (.d (.p (.pointer none)))) (hv : ∀ w q g z, VRep w q g v z → ∃ a, z = .pointer a ∧ a.isNone = b) : RP c o s (.b (if op = .eql then b else !b)) := fun g a w hs => by
  obtain ⟨p, hp1, hp2⟩ := hv _ _ _ _ (hs.ev hx)
  refine ⟨.bool (if op = .eql then b else !b), .d _ _ (.p _), fun w' => ?_⟩
  have h := run_equal_ptr hu p w'
  rcases hop with rfl | rfl <;> simp [execOp, ho, hp1, VRep.p_eq (hs.ev hy), eqGuard, binOp, h, hp2]
theorem rp_neqp_ad {t t' e : TypeId} {x y : Operand} {row : List D} (hu : c.P.underlying t = some (.pointer e)) (ho : o.op = .binOp .neq t x y t') (hx : s.ev x = some (.ad row)) (hy : s.ev y = some (.d (.p (.pointer none)))) : RP c o s (.b true) :=
  rp_ptr (b := false) (.inr rfl) hu ho hx hy fun w q g z hz => by cases hz; exact ⟨_, rfl, rfl⟩
theorem rp_neqp_nil {t t' e : TypeId} {x y : Operand} (hu : c.P.underlying t = some (.pointer e)) (ho : o.op = .binOp .neq t x y t') (hx : s.ev x = some (.d (.p (.pointer none)))) (hy : s.ev y = some (.d (.p (.pointer none)))) : RP c o s (.b false) :=
  rp_ptr (b := true) (.inr rfl) hu ho hx hy fun w q g z hz => by rw [VRep.p_eq hz]; exact ⟨_, rfl, rfl⟩
end
end Go.Proofs.YtkikceoccmoanaaGreatDoor
namespace Go.Proofs.YtkikceoccmoanaaGreatDoor
open Go.RowKit
set_option linter.unusedSimpArgs false
set_option linter.unusedVariables false
set_option maxRecDepth 100000

theorem ba_loop (bs : ByteArray) : ∀ (m i : Nat) (r : List UInt8), bs.size - i = m → ByteArray.toList.loop bs i r = r.reverse ++ bs.data.toList.drop i := by
 intro m
 induction m with
 | zero =>
  intro i r h
  rw [ByteArray.toList.loop]
  have : ¬ i < bs.size := by omega
  rw [if_neg this, List.drop_eq_nil_of_le (by have : bs.data.toList.length = bs.size := Array.length_toList; omega), List.append_nil]
 | succ m ih =>
  intro i r h
  rw [ByteArray.toList.loop]
  have hi : i < bs.size := by omega
  have hl : bs.data.toList.length = bs.size := Array.length_toList
  rw [if_pos hi, ih (i + 1) _ (by omega), List.drop_eq_getElem_cons (by omega : i < bs.data.toList.length)]
  have : bs.get! i = bs.data.toList[i] := by
   simp [ByteArray.get!]
   rw [getElem!_pos bs.data i (by simpa using hi)]
  rw [this]
  simp
theorem ba_toList (a : ByteArray) : a.toList = a.data.toList := by
 unfold ByteArray.toList
 rw [ba_loop a a.size 0 [] (by omega)]
 simp
theorem ba_ne {a b : ByteArray} (h : a.data.toList ≠ b.data.toList) : (a.toList == b.toList) = false := by
 rw [beq_eq_false_iff_ne, ba_toList, ba_toList]; exact h
section
variable {c : Cx} {s : S} {o : Oper}
theorem rp_eqlsF {t t' : TypeId} {x y : Operand} {a b : ByteArray} (ho : o.op = .binOp .eql t x y t') (hx : s.ev x = some (.s a)) (hy : s.ev y = some (.s b)) (h : a.data.toList ≠ b.data.toList) : RP c o s (.b false) := rp_b (rp_eqls ho hx hy) (ba_ne h)
theorem rp_neqsT {t t' : TypeId} {x y : Operand} {a b : ByteArray} (ho : o.op = .binOp .neq t x y t') (hx : s.ev x = some (.s a)) (hy : s.ev y = some (.s b)) (h : a.data.toList ≠ b.data.toList) : RP c o s (.b true) := rp_b (rp_neqs ho hx hy) (by rw [ba_ne h]; rfl)
end
section
variable {c : Cx} {s : S} {o : Oper}
theorem rp_index_str {t : TypeId} {x y : Operand} {str : ByteArray} {k : Nat} {n' : Int} {kd : IntKind} {b : UInt8} (hu : c.P.underlying t = some .string) (ho : o.op = .index t x y) (hx : s.ev x = some (.s str)) (hy : s.ev y = some (.d (.p (.int kd n')))) (hk : n' = (k : Int)) (hb : str.data.toList[k]? = some b) : RP c o s (.d (.p (.int .u8 (b.toNat : Int)))) := fun g a w hs => by
 refine ⟨.int .u8 (b.toNat : Int), .d _ _ (.p _), fun w' => ?_⟩
 subst hk
 obtain ⟨hlt, he⟩ := List.getElem?_eq_some_iff.1 hb
 have hlt2 : k < str.size := by
  have h : str.data.toList.length = str.size := Array.length_toList
  omega
 have e : (str[k]'hlt2) = b := by rw [← he]; rfl
 have hr : (Instr.index t (.string str) (.int kd (k : Int))).run c.P w' = .ok (.int .u8 (b.toNat : Int)) w' := by
  rw [run_index_string w' t str kd (k : Int) hu, dif_pos ⟨by omega, by omega⟩]
  simp only [Int.toNat_natCast, e]
 simp only [execOp, ho, VRep.p_eq (hs.ev hx), VRep.p_eq (hs.ev hy), Sem.run_bind, hr, Result.andThen_ok]
 rfl
end
/-- A contract of the library's that asks nothing of memory. -/
theorem Fn.ofCalls {P : Program} {f : FuncId} {xs : List Value} {y : Value} {args : List V} {v : V} (h : ∀ w, Calls P f xs.toArray w fun e w' => e = .returned y ∧ Below w.heap.size w w') (ha : ∀ w q g zs, VReps w q g args zs → zs = xs) (hv : ∀ w q g, VRep w q g v y) (hp : v.pure) : Fn P f args (fun v' => v' = v) := by
 intro w out g zs ho hz
 obtain rfl := ha _ _ _ _ hz
 refine (h w).mono ?_
 rintro e w' ⟨rfl, hb⟩
 exact ⟨v, y, rfl, rfl, hp, hv _ _ _, hb⟩
theorem reps_s1 {a : ByteArray} {w : World} {q : Nat → Prop} {g : Nat → Nat × Nat} {zs : List Value} (h : VReps w q g [.s a] zs) : zs = [.string a] := by
 obtain ⟨h1, h2⟩ := h
 match zs, h1, h2 with
 | [z], _, h2 => rw [VRep.p_eq (h2 0 _ z rfl rfl)]
theorem am_Digit (b : UInt8) : Fn Tryz.prog 25 [.d (.p (.int .u8 (b.toNat : Int)))] (fun v => v = .b (decide (48 ≤ b.toNat ∧ b.toNat ≤ 57))) := by
 by_cases h1 : 48 ≤ b.toNat
 ·by_cases h2 : b.toNat ≤ 57
  ·refine Fn.intro (n := 9) ⟨Tryz.func25, rfl, rfl, rfl, rfl⟩ (by simp [V.pure, V.has, V.hasL]) (by simp) fun w0 out => ?_
   refine AW.seq ?_
   refine AW.region ?_
   refine AL.rp rfl rfl (rp_assign rfl rfl) ?_
   refine AL.nil ?_
   try simp only [thenS, S.put, enum, List.nil_append, List.cons_append, List.append_nil, Nat.zero_add, Nat.reduceAdd]
   refine AW.seq ?_
   refine AW.region ?_
   refine AL.rp rfl rfl (rp_move rfl rfl) ?_
   (first | (refine AL.rp rfl rfl (rp_geqT rfl rfl rfl (by first | assumption | omega | (dsimp only; omega))) ?_) | (refine AL.rp rfl rfl (rp_geqF rfl rfl rfl (by first | assumption | omega | (dsimp only; omega))) ?_) | (refine AL.rp rfl rfl (rp_geq rfl rfl rfl) ?_))
   refine AL.rp rfl rfl (rp_move rfl rfl) ?_
   (first | (refine AL.noV rfl rfl rfl rfl ?_) | (refine AL.noU rfl ⟨_, rfl, rfl⟩ rfl ?_) | (refine AL.rpy rfl rfl rfl (rp_move rfl rfl) ?_))
   (first | (refine AL.noV rfl rfl rfl rfl ?_) | (refine AL.noU rfl ⟨_, rfl, rfl⟩ rfl ?_) | (refine AL.rpy rfl rfl rfl (rp_leqT rfl rfl rfl (by first | assumption | omega | (dsimp only; omega))) ?_) | (refine AL.rpy rfl rfl rfl (rp_leqF rfl rfl rfl (by first | assumption | omega | (dsimp only; omega))) ?_) | (refine AL.rpy rfl rfl rfl (rp_leq rfl rfl rfl) ?_))
   refine AL.rp rfl rfl (rp_pick rfl rfl rfl) ?_
   refine AL.rp rfl rfl (rp_assign rfl rfl) ?_
   refine AL.nil ?_
   try simp only [thenS, S.put]
   refine AW.ret ?_
   exact ⟨[_], ⟨rfl, trivial⟩, by simp [h1, h2, tupOf], by simp [tupOf, V.pure, V.has, V.hasL]⟩
  ·refine Fn.intro (n := 9) ⟨Tryz.func25, rfl, rfl, rfl, rfl⟩ (by simp [V.pure, V.has, V.hasL]) (by simp) fun w0 out => ?_
   refine AW.seq ?_
   refine AW.region ?_
   refine AL.rp rfl rfl (rp_assign rfl rfl) ?_
   refine AL.nil ?_
   try simp only [thenS, S.put, enum, List.nil_append, List.cons_append, List.append_nil, Nat.zero_add, Nat.reduceAdd]
   refine AW.seq ?_
   refine AW.region ?_
   refine AL.rp rfl rfl (rp_move rfl rfl) ?_
   (first | (refine AL.rp rfl rfl (rp_geqT rfl rfl rfl (by first | assumption | omega | (dsimp only; omega))) ?_) | (refine AL.rp rfl rfl (rp_geqF rfl rfl rfl (by first | assumption | omega | (dsimp only; omega))) ?_) | (refine AL.rp rfl rfl (rp_geq rfl rfl rfl) ?_))
   refine AL.rp rfl rfl (rp_move rfl rfl) ?_
   (first | (refine AL.noV rfl rfl rfl rfl ?_) | (refine AL.noU rfl ⟨_, rfl, rfl⟩ rfl ?_) | (refine AL.rpy rfl rfl rfl (rp_move rfl rfl) ?_))
   (first | (refine AL.noV rfl rfl rfl rfl ?_) | (refine AL.noU rfl ⟨_, rfl, rfl⟩ rfl ?_) | (refine AL.rpy rfl rfl rfl (rp_leqT rfl rfl rfl (by first | assumption | omega | (dsimp only; omega))) ?_) | (refine AL.rpy rfl rfl rfl (rp_leqF rfl rfl rfl (by first | assumption | omega | (dsimp only; omega))) ?_) | (refine AL.rpy rfl rfl rfl (rp_leq rfl rfl rfl) ?_))
   refine AL.rp rfl rfl (rp_pick rfl rfl rfl) ?_
   refine AL.rp rfl rfl (rp_assign rfl rfl) ?_
   refine AL.nil ?_
   try simp only [thenS, S.put]
   refine AW.ret ?_
   exact ⟨[_], ⟨rfl, trivial⟩, by simp [h1, h2, tupOf], by simp [tupOf, V.pure, V.has, V.hasL]⟩
 ·refine Fn.intro (n := 9) ⟨Tryz.func25, rfl, rfl, rfl, rfl⟩ (by simp [V.pure, V.has, V.hasL]) (by simp) fun w0 out => ?_
  refine AW.seq ?_
  refine AW.region ?_
  refine AL.rp rfl rfl (rp_assign rfl rfl) ?_
  refine AL.nil ?_
  try simp only [thenS, S.put, enum, List.nil_append, List.cons_append, List.append_nil, Nat.zero_add, Nat.reduceAdd]
  refine AW.seq ?_
  refine AW.region ?_
  refine AL.rp rfl rfl (rp_move rfl rfl) ?_
  (first | (refine AL.rp rfl rfl (rp_geqT rfl rfl rfl (by first | assumption | omega | (dsimp only; omega))) ?_) | (refine AL.rp rfl rfl (rp_geqF rfl rfl rfl (by first | assumption | omega | (dsimp only; omega))) ?_) | (refine AL.rp rfl rfl (rp_geq rfl rfl rfl) ?_))
  refine AL.rp rfl rfl (rp_move rfl rfl) ?_
  (first | (refine AL.noV rfl rfl rfl rfl ?_) | (refine AL.noU rfl ⟨_, rfl, rfl⟩ rfl ?_) | (refine AL.rpy rfl rfl rfl (rp_move rfl rfl) ?_))
  (first | (refine AL.noV rfl rfl rfl rfl ?_) | (refine AL.noU rfl ⟨_, rfl, rfl⟩ rfl ?_) | (refine AL.rpy rfl rfl rfl (rp_leqT rfl rfl rfl (by first | assumption | omega | (dsimp only; omega))) ?_) | (refine AL.rpy rfl rfl rfl (rp_leqF rfl rfl rfl (by first | assumption | omega | (dsimp only; omega))) ?_) | (refine AL.rpy rfl rfl rfl (rp_leq rfl rfl rfl) ?_))
  refine AL.rp rfl rfl (rp_pick rfl rfl rfl) ?_
  refine AL.rp rfl rfl (rp_assign rfl rfl) ?_
  refine AL.nil ?_
  try simp only [thenS, S.put]
  refine AW.ret ?_
  exact ⟨[_], ⟨rfl, trivial⟩, by simp [h1, tupOf], by simp [tupOf, V.pure, V.has, V.hasL]⟩
end Go.Proofs.YtkikceoccmoanaaGreatDoor
namespace Go.Proofs.YtkikceoccmoanaaGreatDoor
open Go.Shelf Go.RowKit Go.Sort Go.Lib
def lays137_ren : Go.Shelf.Ren := ⟨fun | 137 => 31 | 217 => 45 | 266 => 64 | n => n, fun | 9 => 9 | 5 => 5 | 3 => 3 | n => n, fun | n => n⟩
theorem lays137 : Go.Proofs.Lays.n137 Tryz.prog lays137_ren := {
  mixed := by kernel_rfl
  f137 := Tryz.func31.trans (congrArg some (by kernel_rfl))
  f217 := Tryz.func45.trans (congrArg some (by kernel_rfl))
  f266 := Tryz.func64.trans (congrArg some (by kernel_rfl))
  t3 := Tryz.underlying3
  a3 := Tryz.isAgg3
  z3 := Tryz.sizeOf3
  v3 := Tryz.zeroValue3
  t5 := Tryz.underlying5
  a5 := Tryz.isAgg5
  z5 := Tryz.sizeOf5
  v5 := Tryz.zeroValue5
  t9 := Tryz.underlying9
  a9 := Tryz.isAgg9
  z9 := Tryz.sizeOf9
  v9 := Tryz.zeroValue9 }
theorem indexByte_call (s : ByteArray) (c : Int) (w : World) :
    Calls Tryz.prog 31 #[.string s, .int .u8 c] w fun e w' => e = .returned (.int .i64 (Lib.indexByte s.data.toList c.toNat.toUInt8)) ∧ w' = w := Any.strings_IndexByte lays137 s c w
def lays102_ren : Go.Shelf.Ren := ⟨fun | 102 => 17 | 209 => 33 | 207 => 49 | n => n, fun | 9 => 9 | 4 => 4 | 3 => 3 | n => n, fun | n => n⟩
theorem lays102 : Go.Proofs.Lays.n102 Tryz.prog lays102_ren := {
  mixed := by kernel_rfl
  f102 := Tryz.func17.trans (congrArg some (by kernel_rfl))
  f207 := Tryz.func49.trans (congrArg some (by kernel_rfl))
  f209 := Tryz.func33.trans (congrArg some (by kernel_rfl))
  t3 := Tryz.underlying3
  a3 := Tryz.isAgg3
  z3 := Tryz.sizeOf3
  v3 := Tryz.zeroValue3
  t4 := Tryz.underlying4
  a4 := Tryz.isAgg4
  z4 := Tryz.sizeOf4
  v4 := Tryz.zeroValue4
  t9 := Tryz.underlying9
  a9 := Tryz.isAgg9
  z9 := Tryz.sizeOf9
  v9 := Tryz.zeroValue9 }
theorem trimSuffix_call (s p : ByteArray) (w : World) (hs : s.size ≤ 9223372036854775807) :
    Calls Tryz.prog 17 #[.string s, .string p] w fun e w' => e = .returned (.string ⟨(Lib.trimSuffix s.data.toList p.data.toList).toArray⟩) ∧ w' = w := Any.strings_TrimSuffix lays102 s p w hs
def laysC172_ren : Go.Shelf.Ren := ⟨fun | 172 => 34 | 244 => 50 | 245 => 51 | 247 => 69 | 279 => 70 | 280 => 71 | 281 => 72 | 282 => 73 | 287 => 87 | 316 => 88 | 171 => 21 | 205 => 89 | 321 => 99 | 322 => 100 | 243 => 40 | 246 => 61 | 283 => 77 | 284 => 78 | 285 => 79 | 286 => 80 | 129 => 93 | 317 => 92 | 318 => 94 | 319 => 95 | 320 => 96 | 337 => 102 | 338 => 103 | n => n, fun | 9 => 9 | 3 => 3 | 75 => 72 | 76 => 73 | 4 => 4 | 5 => 5 | 167 => 99 | 37 => 55 | 0 => 0 | 85 => 100 | 2 => 2 | 168 => 102 | 53 => 107 | 175 => 116 | 46 => 115 | 210 => 120 | 127 => 81 | 145 => 138 | 143 => 136 | 21 => 21 | 171 => 106 | 173 => 110 | 212 => 124 | 51 => 125 | 20 => 20 | 213 => 126 | 232 => 141 | 233 => 142 | 80 => 63 | n => n, fun | 15 => 1 | 16 => 2 | 17 => 3 | 18 => 6 | 19 => 7 | n => n⟩
theorem laysC172 : Go.Proofs.LaysC.n172 Tryz.prog laysC172_ren := {
  mixed := by kernel_rfl
  f129 := Tryz.func93.trans (congrArg some (by kernel_rfl))
  f171 := Tryz.func21.trans (congrArg some (by kernel_rfl))
  f172 := Tryz.func34.trans (congrArg some (by kernel_rfl))
  f205 := Tryz.func89.trans (congrArg some (by kernel_rfl))
  f243 := Tryz.func40.trans (congrArg some (by kernel_rfl))
  f244 := Tryz.func50.trans (congrArg some (by kernel_rfl))
  f245 := Tryz.func51.trans (congrArg some (by kernel_rfl))
  f246 := Tryz.func61.trans (congrArg some (by kernel_rfl))
  f247 := Tryz.func69.trans (congrArg some (by kernel_rfl))
  f279 := Tryz.func70.trans (congrArg some (by kernel_rfl))
  f280 := Tryz.func71.trans (congrArg some (by kernel_rfl))
  f281 := Tryz.func72.trans (congrArg some (by kernel_rfl))
  f282 := Tryz.func73.trans (congrArg some (by kernel_rfl))
  f283 := Tryz.func77.trans (congrArg some (by kernel_rfl))
  f284 := Tryz.func78.trans (congrArg some (by kernel_rfl))
  f285 := Tryz.func79.trans (congrArg some (by kernel_rfl))
  f286 := Tryz.func80.trans (congrArg some (by kernel_rfl))
  f287 := Tryz.func87.trans (congrArg some (by kernel_rfl))
  f316 := Tryz.func88.trans (congrArg some (by kernel_rfl))
  f317 := Tryz.func92.trans (congrArg some (by kernel_rfl))
  f318 := Tryz.func94.trans (congrArg some (by kernel_rfl))
  f319 := Tryz.func95.trans (congrArg some (by kernel_rfl))
  f320 := Tryz.func96.trans (congrArg some (by kernel_rfl))
  f321 := Tryz.func99.trans (congrArg some (by kernel_rfl))
  f322 := Tryz.func100.trans (congrArg some (by kernel_rfl))
  f337 := Tryz.func102.trans (congrArg some (by kernel_rfl))
  f338 := Tryz.func103.trans (congrArg some (by kernel_rfl))
  t0 := Tryz.underlying0
  a0 := Tryz.isAgg0
  z0 := Tryz.sizeOf0
  v0 := Tryz.zeroValue0
  t2 := Tryz.underlying2
  a2 := Tryz.isAgg2
  z2 := Tryz.sizeOf2
  v2 := Tryz.zeroValue2
  t3 := Tryz.underlying3
  a3 := Tryz.isAgg3
  z3 := Tryz.sizeOf3
  v3 := Tryz.zeroValue3
  t4 := Tryz.underlying4
  a4 := Tryz.isAgg4
  z4 := Tryz.sizeOf4
  v4 := Tryz.zeroValue4
  t5 := Tryz.underlying5
  a5 := Tryz.isAgg5
  z5 := Tryz.sizeOf5
  v5 := Tryz.zeroValue5
  t9 := Tryz.underlying9
  a9 := Tryz.isAgg9
  z9 := Tryz.sizeOf9
  v9 := Tryz.zeroValue9
  t20 := Tryz.underlying20
  a20 := Tryz.isAgg20
  z20 := Tryz.sizeOf20
  v20 := Tryz.zeroValue20
  t21 := Tryz.underlying21
  a21 := Tryz.isAgg21
  z21 := Tryz.sizeOf21
  v21 := Tryz.zeroValue21
  t37 := Tryz.underlying55
  a37 := Tryz.isAgg55
  z37 := Tryz.sizeOf55
  v37 := Tryz.zeroValue55
  t46 := Tryz.underlying115
  a46 := Tryz.isAgg115
  z46 := Tryz.sizeOf115
  v46 := Tryz.zeroValue115
  t51 := Tryz.underlying125
  a51 := Tryz.isAgg125
  z51 := Tryz.sizeOf125
  v51 := Tryz.zeroValue125
  t53 := Tryz.underlying107
  a53 := Tryz.isAgg107
  z53 := Tryz.sizeOf107
  v53 := Tryz.zeroValue107
  t75 := Tryz.underlying72
  a75 := Tryz.isAgg72
  z75 := Tryz.sizeOf72
  v75 := Tryz.zeroValue72
  t76 := Tryz.underlying73
  a76 := Tryz.isAgg73
  z76 := Tryz.sizeOf73
  v76 := Tryz.zeroValue73
  t85 := Tryz.underlying100
  a85 := Tryz.isAgg100
  z85 := Tryz.sizeOf100
  v85 := Tryz.zeroValue100
  t127 := Tryz.underlying81
  a127 := Tryz.isAgg81
  z127 := Tryz.sizeOf81
  v127 := Tryz.zeroValue81
  t143 := Tryz.underlying136
  a143 := Tryz.isAgg136
  z143 := Tryz.sizeOf136
  v143 := Tryz.zeroValue136
  t145 := Tryz.underlying138
  a145 := Tryz.isAgg138
  z145 := Tryz.sizeOf138
  v145 := Tryz.zeroValue138
  t167 := Tryz.underlying99
  a167 := Tryz.isAgg99
  z167 := Tryz.sizeOf99
  v167 := Tryz.zeroValue99
  t168 := Tryz.underlying102
  a168 := Tryz.isAgg102
  z168 := Tryz.sizeOf102
  v168 := Tryz.zeroValue102
  t171 := Tryz.underlying106
  a171 := Tryz.isAgg106
  z171 := Tryz.sizeOf106
  v171 := Tryz.zeroValue106
  t173 := Tryz.underlying110
  a173 := Tryz.isAgg110
  z173 := Tryz.sizeOf110
  v173 := Tryz.zeroValue110
  t175 := Tryz.underlying116
  a175 := Tryz.isAgg116
  z175 := Tryz.sizeOf116
  v175 := Tryz.zeroValue116
  t210 := Tryz.underlying120
  a210 := Tryz.isAgg120
  z210 := Tryz.sizeOf120
  v210 := Tryz.zeroValue120
  t212 := Tryz.underlying124
  a212 := Tryz.isAgg124
  z212 := Tryz.sizeOf124
  v212 := Tryz.zeroValue124
  t213 := Tryz.underlying126
  a213 := Tryz.isAgg126
  z213 := Tryz.sizeOf126
  t232 := Tryz.underlying141
  a232 := Tryz.isAgg141
  z232 := Tryz.sizeOf141
  v232 := Tryz.zeroValue141
  t233 := Tryz.underlying142
  a233 := Tryz.isAgg142
  z233 := Tryz.sizeOf142
  v233 := Tryz.zeroValue142
  g15 := by kernel_rfl
  g16 := by kernel_rfl
  g17 := by kernel_rfl
  g18 := by kernel_rfl
  g19 := by kernel_rfl
  t80 := Tryz.underlying63
  a80 := Tryz.isAgg63
  z80 := Tryz.sizeOf63
  v80 := Tryz.zeroValue63
  i0 := by kernel_rfl
  i2 := by kernel_rfl
  i3 := by kernel_rfl
  i4 := by kernel_rfl
  i5 := by kernel_rfl
  i9 := by kernel_rfl
  i20 := by kernel_rfl
  i21 := by kernel_rfl
  i37 := by kernel_rfl
  i46 := by kernel_rfl
  i51 := by kernel_rfl
  i53 := by kernel_rfl
  i75 := by kernel_rfl
  i76 := by kernel_rfl
  i80 := by kernel_rfl
  i85 := by kernel_rfl
  i127 := by kernel_rfl
  i143 := by kernel_rfl
  i145 := by kernel_rfl
  i167 := by kernel_rfl
  i168 := by kernel_rfl
  i171 := by kernel_rfl
  i173 := by kernel_rfl
  i175 := by kernel_rfl
  i210 := by kernel_rfl
  i212 := by kernel_rfl
  i232 := by kernel_rfl
  i233 := by kernel_rfl
  m15 := by kernel_rfl
  m16 := by kernel_rfl
  m17 := by kernel_rfl
  m18 := by kernel_rfl
  m19 := by kernel_rfl
  c0 := by kernel_rfl
  c2 := by kernel_rfl
  c3 := by kernel_rfl
  c4 := by kernel_rfl
  c5 := by kernel_rfl
  c9 := by kernel_rfl
  c20 := by kernel_rfl
  c21 := by kernel_rfl
  c37 := by kernel_rfl
  c46 := by kernel_rfl
  c51 := by kernel_rfl
  c53 := by kernel_rfl
  c75 := by kernel_rfl
  c76 := by kernel_rfl
  c80 := by kernel_rfl
  c85 := by kernel_rfl
  c127 := by kernel_rfl
  c143 := by kernel_rfl
  c145 := by kernel_rfl
  c167 := by kernel_rfl
  c168 := by kernel_rfl
  c171 := by kernel_rfl
  c173 := by kernel_rfl
  c175 := by kernel_rfl
  c210 := by kernel_rfl
  c212 := by kernel_rfl
  c213 := by kernel_rfl
  c232 := by kernel_rfl
  c233 := by kernel_rfl }
theorem atoi_ok (s : ByteArray) (hmax : s.size ≤ 9223372036854775806) (v : Int) (h : Lib.atoiAll s.data.toList = .ok v) (w : World) :
    Calls Tryz.prog 34 #[.string s] w fun e w' => e = .returned (.tuple #[.int .i64 v, .nilIface]) ∧ (w' = w ∨ ∃ t, w' = Lib.bytesWorld w 5 t) := Any.strconv_Atoi_ok laysC172 s hmax v h w
theorem atoi_syntax (s : ByteArray) (hlim : s.size ≤ 281474976710656) (h : Lib.atoiAll s.data.toList = .«syntax») (tp : TypeId) (p : Value) (w : World) (hvar : w.var? Tryz.prog "strconv.ErrSyntax" = some #[.iface tp p]) :
    Calls Tryz.prog 34 #[.string s] w fun e w' => ∃ N, e = .returned (.tuple #[.int .i64 0, .iface 102 (.pointer (some ⟨N, 0, none⟩))]) ∧ w.heap.size ≤ N ∧ w'.heap[N]? = some (.cells #[.string ⟨#[65, 116, 111, 105]⟩, .string s, .iface tp p] 120 (0, 0)) ∧ Below w.heap.size w w' := Any.strconv_Atoi_syntax_var laysC172 s hlim h tp p w hvar
theorem atoi_range (s : ByteArray) (hlim : s.size ≤ 281474976710656) (h : Lib.atoiAll s.data.toList = .range) (tp : TypeId) (p : Value) (w : World) (hvar : w.var? Tryz.prog "strconv.ErrRange" = some #[.iface tp p]) :
    Calls Tryz.prog 34 #[.string s] w fun e w' => ∃ N, e = .returned (.tuple #[.int .i64 (Lib.atoiSat s.data.toList), .iface 102 (.pointer (some ⟨N, 0, none⟩))]) ∧ w.heap.size ≤ N ∧ w'.heap[N]? = some (.cells #[.string ⟨#[65, 116, 111, 105]⟩, .string s, .iface tp p] 120 (0, 0)) ∧ Below w.heap.size w w' := Any.strconv_Atoi_range_var laysC172 s hlim h tp p w hvar
end Go.Proofs.YtkikceoccmoanaaGreatDoor
namespace Go.Proofs.YtkikceoccmoanaaGreatDoor
open Go.RowKit
set_option linter.unusedSimpArgs false
set_option linter.unusedVariables false
set_option maxRecDepth 100000

/-- A text's first line, with its line feed; what is behind it. -/
def ln1 : List UInt8 → List UInt8
  | [] => []
  | b :: l => if b = 10 then [b] else b :: ln1 l
def ln2 : List UInt8 → List UInt8
  | [] => []
  | b :: l => if b = 10 then l else ln2 l
theorem ln_app : ∀ l : List UInt8, ln1 l ++ ln2 l = l
  | [] => rfl
  | b :: l => by
    unfold ln1 ln2
    split
    · rfl
    · rw [List.cons_append, ln_app l]
theorem ln2_lt : ∀ l : List UInt8, l ≠ [] → (ln2 l).length < l.length
  | [], h => absurd rfl h
  | b :: l, _ => by
    unfold ln2
    split
    · simp
    · cases l with
      | nil => simp [ln2]
      | cons d l => have := ln2_lt (d :: l) (by simp); simp at this ⊢; omega
theorem ln_index : ∀ l : List UInt8, (Lib.indexByte l 10 = -1 ∧ ln1 l = l ∧ ln2 l = []) ∨ ∃ k : Nat, Lib.indexByte l 10 = k ∧ k < l.length ∧ ln1 l = l.take (k + 1) ∧ ln2 l = l.drop (k + 1)
  | [] => .inl ⟨rfl, rfl, rfl⟩
  | b :: l => by
    by_cases hb : b = 10
    · subst hb
      exact .inr ⟨0, by simp [Lib.indexByte], by simp, by simp [ln1], by simp [ln2]⟩
    · have h1 : (b == 10) = false := by simpa using hb
      rcases ln_index l with ⟨h2, h3, h4⟩ | ⟨k, h2, h3, h4, h5⟩
      · exact .inl ⟨by simp [Lib.indexByte, h1, h2], by simp [ln1, hb, h3], by simp [ln2, hb, h4]⟩
      · refine .inr ⟨k + 1, ?_, by simp; omega, by simp [ln1, hb, h4], by simp [ln2, hb, h5]⟩
        have : ¬ ((k : Int) = -1) := by omega
        simp [Lib.indexByte, h1, h2, this]
def bs (l : List UInt8) : ByteArray := ⟨l.toArray⟩
theorem bs_size (l : List UInt8) : (bs l).size = l.length := by simp [bs, ByteArray.size]
theorem bs_list (l : List UInt8) : (bs l).data.toList = l := by simp [bs]
theorem bs_of (b : ByteArray) : bs b.data.toList = b := by cases b; simp [bs]
theorem bs_ext {a b : ByteArray} (h : a.data.toList = b.data.toList) : a = b := by
  cases a; cases b
  simp only [ByteArray.mk.injEq]
  exact Array.ext' h
theorem bs_take (l : List UInt8) (k : Nat) : (bs l).extract 0 k = bs (l.take k) := bs_ext (by rw [Lib.extract_data, bs_list, bs_list]; simp)
theorem bs_drop (l : List UInt8) (k : Nat) : (bs l).extract k (bs l).size = bs (l.drop k) := bs_ext (by rw [Lib.extract_to_end, bs_list, bs_list])
section
variable {c : Cx} {s : S} {o : Oper}
theorem rp_slice_strh {t : TypeId} {x y : Operand} {l : List UInt8} {k : Nat} {n' : Int} (hu : c.P.underlying t = some .string) (ho : o.op = .slice t x none (some y) none) (hx : s.ev x = some (.s (bs l))) (hy : s.ev y = some (.i n')) (hk : n' = (k : Int)) (h : k ≤ l.length) : RP c o s (.s (bs (l.take k))) := fun g a w hs => by
  refine ⟨.string (bs (l.take k)), .d _ _ (.p _), fun w' => ?_⟩
  subst hk
  have hr := run_slice_string_h (P := c.P) w' t (bs l) hu .i64 (k : Int) (by omega) (by rw [bs_size]; omega)
  rw [Int.toNat_natCast, bs_take] at hr
  simp only [execOp, ho, VRep.p_eq (hs.ev hx), VRep.p_eq (hs.ev hy), Option.map_some, Option.map_none, Sem.run_bind, run_sliceAt_string _ t _ _ _ _ hu, hr, Result.andThen_ok]
  rfl
theorem rp_slice_strl {t : TypeId} {x y : Operand} {l : List UInt8} {k : Nat} {n' : Int} (hu : c.P.underlying t = some .string) (ho : o.op = .slice t x (some y) none none) (hx : s.ev x = some (.s (bs l))) (hy : s.ev y = some (.i n')) (hk : n' = (k : Int)) (h : k ≤ l.length) : RP c o s (.s (bs (l.drop k))) := fun g a w hs => by
  refine ⟨.string (bs (l.drop k)), .d _ _ (.p _), fun w' => ?_⟩
  subst hk
  have hr := run_slice_string_l (P := c.P) w' t (bs l) hu .i64 (k : Int) (by omega) (by rw [bs_size]; omega)
  rw [Int.toNat_natCast, bs_drop] at hr
  simp only [execOp, ho, VRep.p_eq (hs.ev hx), VRep.p_eq (hs.ev hy), Option.map_some, Option.map_none, Sem.run_bind, run_sliceAt_string _ t _ _ _ _ hu, hr, Result.andThen_ok]
  rfl
end
end Go.Proofs.YtkikceoccmoanaaGreatDoor
namespace Go.Proofs.YtkikceoccmoanaaGreatDoor
open Go.RowKit
set_option linter.unusedSimpArgs false
set_option linter.unusedVariables false

section
variable {c : Cx} {s : S} {o : Oper}
/-- One operation that changes nothing, nor where the objects lie. -/
def StepK (c : Cx) (o : Oper) (s : S) (N : S → Prop) : Prop := ∀ g a w, Sim c g s a w → ∀ (K : Act → World → Prop) (Q : Exit → Act → World → Prop),
  (∀ s' a' w', N s' → Sim c g s' a' w' → Below w.heap.size w w' → K a' w') → o.wp c.P a w K Q
theorem RD.stepK {v : V} {N : S → Prop} (h : RD c o s v) (hd : dok s o = true) (hN : N (s.put o.dst v)) : StepK c o s N := by
  intro g a w hs K Q hK
  obtain ⟨x, h1, h2⟩ := h g a w hs
  unfold Oper.wp
  rw [h2 w (Below.refl _ _)]
  exact hK _ _ _ hN (hs.put o.dst (dok_spec hd) h1) (Below.refl _ _)
/-- A read of object r, if that is old. -/
def RO (c : Cx) (o : Oper) (s : S) (r : Nat) (v : V) : Prop := ∀ W g a w, Sim c g s a w → Below W.heap.size W w → (g r).1 < W.heap.size → ∃ x, VRep w (qt c s.H g) g v x ∧ ∀ w', Below W.heap.size W w' → (execOp a.eval o).run c.P w' = .ok (.value x) w'
variable {Q : Exit → S → Prop} {L : List Oper} {ops : Array Oper} {need : Nat → Bool} {l : List (Nat × Bool)} {i : Nat} {O : List Nat}
def AO (O : List Nat) (c : Cx) (ops : Array Oper) (Q : Exit → S → Prop) (need : Nat → Bool) (l : List (Nat × Bool)) (s : S) : Prop := ∀ W g a w, Sim c g s a w → Below W.heap.size W w → (∀ r ∈ O, (g r).1 < W.heap.size) → ASeq c.P ops (QQ c Q) (Below W.heap.size W) need l a w
theorem AO.stepK (hi : L[i]? = some o) (hg : o.guard = none) (h : StepK c o s (AO O c L.toArray Q need l)) : AO O c L.toArray Q need ((i, false) :: l) s := fun W g a w hs hb hO =>
  wpOp_of (by simpa using hi) hg (h g a w hs _ _ fun s' a' w' h1 h2 h3 => ⟨fun _ => hb.trans (h3.mono hb.size), h1 W g a' w' h2 (hb.trans (h3.mono hb.size)) hO⟩)
theorem AO.stepKy {j : Nat} {b : Bool} (hi : L[i]? = some o) (hg : o.guard = some (j, b)) (hy : yld L.toArray s j = some b) (h : StepK c o s (AO O c L.toArray Q need l)) : AO O c L.toArray Q need ((i, false) :: l) s := fun W g a w hs hb hO =>
  wpOp_ofy (by simpa using hi) (by simp [Region.wanted, hg, yld_spec hy hs]) (h g a w hs _ _ fun s' a' w' h1 h2 h3 => ⟨fun _ => hb.trans (h3.mono hb.size), h1 W g a' w' h2 (hb.trans (h3.mono hb.size)) hO⟩)
theorem AO.call {post : V → Prop} (hi : L[i]? = some o) (hg : o.guard = none) (h : StepK c o s (fun s' => ∃ v, post v ∧ v.pure ∧ s' = s.put o.dst v)) (hN : ∀ v, post v → v.pure → AO O c L.toArray Q need l (s.put o.dst v)) : AO O c L.toArray Q need ((i, false) :: l) s :=
  AO.stepK hi hg fun g a w hs K Q' hK => h g a w hs K Q' fun s' a' w' ⟨v, h1, h2, e⟩ h3 h4 => hK s' a' w' (by subst e; exact hN v h1 h2) h3 h4
theorem AO.cally {post : V → Prop} {j : Nat} {b : Bool} (hi : L[i]? = some o) (hg : o.guard = some (j, b)) (hy : yld L.toArray s j = some b) (h : StepK c o s (fun s' => ∃ v, post v ∧ v.pure ∧ s' = s.put o.dst v)) (hN : ∀ v, post v → v.pure → AO O c L.toArray Q need l (s.put o.dst v)) : AO O c L.toArray Q need ((i, false) :: l) s :=
  AO.stepKy hi hg hy fun g a w hs K Q' hK => h g a w hs K Q' fun s' a' w' ⟨v, h1, h2, e⟩ h3 h4 => hK s' a' w' (by subst e; exact hN v h1 h2) h3 h4
theorem AO.rd1 {v : V} (hi : L[i]? = some o) (hg : o.guard = none) (hd : dok s o = true) (h : RD c o s v) (hN : AO O c L.toArray Q need l (s.put o.dst v)) : AO O c L.toArray Q need ((i, false) :: l) s := AO.stepK hi hg (h.stepK hd hN)
theorem AO.rp1 {v : V} (hi : L[i]? = some o) (hg : o.guard = none) (hd : dok s o = true) (h : RP c o s v) (hN : AO O c L.toArray Q need l (s.put o.dst v)) : AO O c L.toArray Q need ((i, false) :: l) s := AO.rd1 hi hg hd h.rd hN
theorem AO.rd1y {v : V} {j : Nat} {b : Bool} (hi : L[i]? = some o) (hg : o.guard = some (j, b)) (hy : yld L.toArray s j = some b) (hd : dok s o = true) (h : RD c o s v) (hN : AO O c L.toArray Q need l (s.put o.dst v)) : AO O c L.toArray Q need ((i, false) :: l) s := AO.stepKy hi hg hy (h.stepK hd hN)
theorem AO.rp1y {v : V} {j : Nat} {b : Bool} (hi : L[i]? = some o) (hg : o.guard = some (j, b)) (hy : yld L.toArray s j = some b) (hd : dok s o = true) (h : RP c o s v) (hN : AO O c L.toArray Q need l (s.put o.dst v)) : AO O c L.toArray Q need ((i, false) :: l) s := AO.rd1y hi hg hy hd h.rd hN
theorem AO.rp {v : V} (hi : L[i]? = some o) (hg : o.guard = none) (hd : dok s o = true) (hp : noP Q) (h : RP c o s v) (hN : AO O c L.toArray Q need l (s.put o.dst v)) : AO O c L.toArray Q need ((i, true) :: l) s := fun W g a w hs hb hO => by
  obtain ⟨x, h1, h2⟩ := h g a w hs
  exact ⟨o, x, by simpa using hi, .inl ⟨by simp [Region.wanted, hg], fun w' _ => h2 w'⟩, hb, QQ_noP hp _ _, hN W g _ w (hs.put o.dst (dok_spec hd) h1) hb hO⟩
theorem AO.rpy {v : V} {j : Nat} {b : Bool} (hi : L[i]? = some o) (hg : o.guard = some (j, b)) (hy : yld L.toArray s j = some b) (hd : dok s o = true) (hp : noP Q) (h : RP c o s v) (hN : AO O c L.toArray Q need l (s.put o.dst v)) : AO O c L.toArray Q need ((i, true) :: l) s := fun W g a w hs hb hO => by
  obtain ⟨x, h1, h2⟩ := h g a w hs
  exact ⟨o, x, by simpa using hi, .inl ⟨by simp [Region.wanted, hg, yld_spec hy hs], fun w' _ => h2 w'⟩, hb, QQ_noP hp _ _, hN W g _ w (hs.put o.dst (dok_spec hd) h1) hb hO⟩
theorem AO.rd {v : V} {r : Nat} (hi : L[i]? = some o) (hg : o.guard = none) (hd : dok s o = true) (hp : noP Q) (h : RO c o s r v) (hr : r ∈ O) (hN : AO O c L.toArray Q need l (s.put o.dst v)) : AO O c L.toArray Q need ((i, true) :: l) s := fun W g a w hs hb hO => by
  obtain ⟨x, h1, h2⟩ := h W g a w hs hb (hO r hr)
  exact ⟨o, x, by simpa using hi, .inl ⟨by simp [Region.wanted, hg], h2⟩, hb, QQ_noP hp _ _, hN W g _ w (hs.put o.dst (dok_spec hd) h1) hb hO⟩
theorem AO.rdy {v : V} {r : Nat} {j : Nat} {b : Bool} (hi : L[i]? = some o) (hg : o.guard = some (j, b)) (hy : yld L.toArray s j = some b) (hd : dok s o = true) (hp : noP Q) (h : RO c o s r v) (hr : r ∈ O) (hN : AO O c L.toArray Q need l (s.put o.dst v)) : AO O c L.toArray Q need ((i, true) :: l) s := fun W g a w hs hb hO => by
  obtain ⟨x, h1, h2⟩ := h W g a w hs hb (hO r hr)
  exact ⟨o, x, by simpa using hi, .inl ⟨by simp [Region.wanted, hg, yld_spec hy hs], h2⟩, hb, QQ_noP hp _ _, hN W g _ w (hs.put o.dst (dok_spec hd) h1) hb hO⟩
theorem AO.nil (h : Q .normal s) : AO O c L.toArray Q need [] s := fun W g a w hs _ _ => ⟨g, s, h, hs⟩
/-- An operation that is not wanted. -/
theorem AO.skipT (hi : L[i]? = some o) (hw : ∀ g a w, Sim c g s a w → Region.wanted o (yielded L.toArray a.tmps) = false) (hd : dok s o = true) (hp : noP Q) (hN : AO O c L.toArray Q need l (s.put o.dst (.d (.p undef)))) : AO O c L.toArray Q need ((i, true) :: l) s := fun W g a w hs hb hO =>
  ⟨o, undef, by simpa using hi, .inr ⟨hw g a w hs, rfl⟩, hb, QQ_noP hp _ _, hN W g _ w (hs.put o.dst (dok_spec hd) (.d _ _ (.p _))) hb hO⟩
theorem not_wanted {j : Nat} {b b' : Bool} (hg : o.guard = some (j, b)) (hy : yld L.toArray s j = some b') (hb' : (b' == b) = false) : ∀ g a w, Sim c g s a w → Region.wanted o (yielded L.toArray a.tmps) = false := fun g a w hs => by
  simp only [Region.wanted, hg, yld_spec hy hs]; simpa using hb'
theorem not_wantedU {j : Nat} {b : Bool} (hg : o.guard = some (j, b)) (hy : und L.toArray s j) : ∀ g a w, Sim c g s a w → Region.wanted o (yielded L.toArray a.tmps) = false := fun g a w hs => by
  simp only [Region.wanted, hg, und_spec hy hs]; simp
theorem AO.noV {j : Nat} {b b' : Bool} (hi : L[i]? = some o) (hg : o.guard = some (j, b)) (hy : yld L.toArray s j = some b') (hb' : (b' == b) = false) (hd : dok s o = true) (hp : noP Q) (hN : AO O c L.toArray Q need l (s.put o.dst (.d (.p undef)))) : AO O c L.toArray Q need ((i, true) :: l) s := AO.skipT hi (not_wanted hg hy hb') hd hp hN
theorem AO.noU {j : Nat} {b : Bool} (hi : L[i]? = some o) (hg : o.guard = some (j, b)) (hy : und L.toArray s j) (hd : dok s o = true) (hp : noP Q) (hN : AO O c L.toArray Q need l (s.put o.dst (.d (.p undef)))) : AO O c L.toArray Q need ((i, true) :: l) s := AO.skipT hi (not_wantedU hg hy) hd hp hN
end
end Go.Proofs.YtkikceoccmoanaaGreatDoor
namespace Go.Proofs.YtkikceoccmoanaaGreatDoor
open Go.RowKit
set_option linter.unusedSimpArgs false
set_option linter.unusedVariables false

section
variable {P : Program} {ops : Array Oper} {Q : Exit → Act → World → Prop} {md : Region.Mode} {T : World → Prop} {need : Nat → Bool}
def ASeq2 (P : Program) (ops : Array Oper) (Q : Exit → Act → World → Prop) (T : World → Prop) (need : Nat → Bool) (r1 r2 : List (Nat × Bool)) : List Nat → Act → World → Prop
  | [], a, w => ASeq P ops Q T need r1 a w ∧ ASeq P ops Q T need r2 a w
  | i :: r, a, w => ∃ oi x, ops[i]? = some oi ∧ YieldsIf P ops T oi x a ∧ T w ∧ (∀ c a w, Q (.panic c) (a.put oi.dst x) w → Q (.panic c) a w) ∧ ASeq2 P ops Q T need r1 r2 r (a.put oi.dst x) w
end
section
variable {c : Cx} {s : S} {Q : Exit → S → Prop} {ops : Array Oper} {L : List Oper} {need : Nat → Bool} {r1 r2 : List (Nat × Bool)} {l : List Nat} {i : Nat} {o : Oper}
/-- A list without what is shadowed. -/
def ddL {α : Type} : List Nat → List (Nat × α) → List (Nat × α)
  | _, [] => []
  | seen, (k, v) :: l => if seen.contains k then ddL seen l else (k, v) :: ddL (k :: seen) l
theorem ddL_get {α : Type} : ∀ (l : List (Nat × α)) (seen : List Nat) (i : Nat) (v : α), fnd (ddL seen l) i = some v → i ∉ seen ∧ fnd l i = some v
  | [], seen, i, v, h => by simp [ddL, fnd] at h
  | (k, u) :: l, seen, i, v, h => by
    simp only [ddL] at h
    split at h
    · rename_i hk
      obtain ⟨h1, h2⟩ := ddL_get l seen i v h
      refine ⟨h1, ?_⟩
      have : k ≠ i := by rintro rfl; exact h1 (by simpa using hk)
      simpa [fnd, this] using h2
    · rename_i hk
      simp only [fnd] at h ⊢
      split at h
      · rename_i e
        simp only [beq_iff_eq] at e
        subst e
        exact ⟨by simpa using hk, by simpa using h⟩
      · rename_i e
        obtain ⟨h1, h2⟩ := ddL_get l (k :: seen) i v h
        rw [if_neg e]
        exact ⟨fun hm => h1 (List.mem_cons_of_mem _ hm), h2⟩
def S.dd (s : S) : S := ⟨s.n, ddL [] s.T, ddL [] s.H, s.K⟩
theorem Less.dd (s : S) : Less s.dd s := ⟨rfl, fun i v h => ⟨v, (ddL_get _ _ _ _ h).2, .refl _⟩, fun r row h => ⟨row, (ddL_get _ _ _ _ h).2, rfl, rfl, rfl, fun j v hv => ⟨v, hv, .refl _⟩⟩, fun j v h => ⟨v, h, .refl _⟩⟩
theorem Less.refl (s : S) : Less s s := ⟨rfl, fun i v h => ⟨v, h, .refl _⟩, fun r row h => ⟨row, h, rfl, rfl, rfl, fun j v hv => ⟨v, hv, .refl _⟩⟩, fun j v h => ⟨v, h, .refl _⟩⟩
/-- Both orders end at N, or know more. -/
def QJ (N : S) : Exit → S → Prop
  | .normal, s => Less N s
  | _, _ => False
def AB1 (c : Cx) (ops : Array Oper) (Q : Exit → S → Prop) (need : Nat → Bool) (r1 r2 : List (Nat × Bool)) (l : List Nat) (s : S) : Prop := ∀ g a w, Sim c g s a w → ASeq2 c.P ops (QQ c Q) (Below w.heap.size w) need r1 r2 l a w
theorem AB1.rd {v : V} (hi : L[i]? = some o) (hg : o.guard = none) (hd : dok s o = true) (hp : noP Q) (h : RD c o s v) (hN : AB1 c L.toArray Q need r1 r2 l (s.put o.dst v)) : AB1 c L.toArray Q need r1 r2 (i :: l) s := fun g a w hs => by
  obtain ⟨x, h1, h2⟩ := h g a w hs
  exact ⟨o, x, by simpa using hi, .inl ⟨by simp [Region.wanted, hg], h2⟩, Below.refl _ _, QQ_noP hp _ _, hN g _ w (hs.put o.dst (dok_spec hd) h1)⟩
theorem AB1.rp {v : V} (hi : L[i]? = some o) (hg : o.guard = none) (hd : dok s o = true) (hp : noP Q) (h : RP c o s v) (hN : AB1 c L.toArray Q need r1 r2 l (s.put o.dst v)) : AB1 c L.toArray Q need r1 r2 (i :: l) s := AB1.rd hi hg hd hp h.rd hN
theorem AB1.rdy {v : V} {j : Nat} {b : Bool} (hi : L[i]? = some o) (hg : o.guard = some (j, b)) (hy : yld L.toArray s j = some b) (hd : dok s o = true) (hp : noP Q) (h : RD c o s v) (hN : AB1 c L.toArray Q need r1 r2 l (s.put o.dst v)) : AB1 c L.toArray Q need r1 r2 (i :: l) s := fun g a w hs => by
  obtain ⟨x, h1, h2⟩ := h g a w hs
  exact ⟨o, x, by simpa using hi, .inl ⟨by simp [Region.wanted, hg, yld_spec hy hs], h2⟩, Below.refl _ _, QQ_noP hp _ _, hN g _ w (hs.put o.dst (dok_spec hd) h1)⟩
theorem AB1.rpy {v : V} {j : Nat} {b : Bool} (hi : L[i]? = some o) (hg : o.guard = some (j, b)) (hy : yld L.toArray s j = some b) (hd : dok s o = true) (hp : noP Q) (h : RP c o s v) (hN : AB1 c L.toArray Q need r1 r2 l (s.put o.dst v)) : AB1 c L.toArray Q need r1 r2 (i :: l) s := AB1.rdy hi hg hy hd hp h.rd hN
theorem AB1.no {j : Nat} {b b' : Bool} (hi : L[i]? = some o) (hg : o.guard = some (j, b)) (hy : yld L.toArray s j = some b') (hb : (b' == b) = false) (hd : dok s o = true) (hp : noP Q) (hN : AB1 c L.toArray Q need r1 r2 l (s.put o.dst .junk)) : AB1 c L.toArray Q need r1 r2 (i :: l) s := fun g a w hs =>
  ⟨o, undef, by simpa using hi, .inr ⟨by simp only [Region.wanted, hg, yld_spec hy hs]; simpa using hb, rfl⟩, Below.refl _ _, QQ_noP hp _ _, hN g _ w (hs.put o.dst (dok_spec hd) (.junk _))⟩
theorem AB1.nil (h1 : AD2 c L.toArray Q need r1 s) (h2 : AD2 c L.toArray Q need r2 s) : AB1 c L.toArray Q need r1 r2 [] s := fun g a w hs => ⟨h1 w g a w hs (Below.refl _ _), h2 w g a w hs (Below.refl _ _)⟩
/-- A new object r has been made since the region began: what is written to it harms nobody. -/
def AQ (r : Nat) (c : Cx) (ops : Array Oper) (Q : Exit → S → Prop) (need : Nat → Bool) (l : List (Nat × Bool)) (s : S) : Prop := ∀ W g a w, Sim c g s a w → Below W.heap.size W w → W.heap.size ≤ (g r).1 → ASeq c.P ops (QQ c Q) (Below W.heap.size W) need l a w
variable {l : List (Nat × Bool)} {r : Nat}
theorem AD2.new {r : Nat} {X : S} (hi : L[i]? = some o) (hg : o.guard = none) (h : StepG c o s r (fun s' => s' = X)) (hN : AQ r c L.toArray Q need l X) : AD2 c L.toArray Q need ((i, false) :: l) s := fun W g a w hs hb =>
  wpOp_of (by simpa using hi) hg (h g a w hs _ _ fun g' s' a' w' h1 h2 h3 _ h5 => by
    subst h1
    have hb' := hb.trans (h3.mono hb.size)
    exact ⟨fun _ => hb', hN W g' a' w' h2 hb' (Nat.le_trans hb.size h5)⟩)
theorem AQ.stepK (hi : L[i]? = some o) (hg : o.guard = none) (h : StepK c o s (AQ r c L.toArray Q need l)) : AQ r c L.toArray Q need ((i, false) :: l) s := fun W g a w hs hb hr =>
  wpOp_of (by simpa using hi) hg (h g a w hs _ _ fun s' a' w' h1 h2 h3 => ⟨fun _ => hb.trans (h3.mono hb.size), h1 W g a' w' h2 (hb.trans (h3.mono hb.size)) hr⟩)
theorem AQ.stepKy {j : Nat} {b : Bool} (hi : L[i]? = some o) (hg : o.guard = some (j, b)) (hy : yld L.toArray s j = some b) (h : StepK c o s (AQ r c L.toArray Q need l)) : AQ r c L.toArray Q need ((i, false) :: l) s := fun W g a w hs hb hr =>
  wpOp_ofy (by simpa using hi) (by simp [Region.wanted, hg, yld_spec hy hs]) (h g a w hs _ _ fun s' a' w' h1 h2 h3 => ⟨fun _ => hb.trans (h3.mono hb.size), h1 W g a' w' h2 (hb.trans (h3.mono hb.size)) hr⟩)
theorem AQ.call {post : V → Prop} (hi : L[i]? = some o) (hg : o.guard = none) (h : StepK c o s (fun s' => ∃ v, post v ∧ v.pure ∧ s' = s.put o.dst v)) (hN : ∀ v, post v → v.pure → AQ r c L.toArray Q need l (s.put o.dst v)) : AQ r c L.toArray Q need ((i, false) :: l) s :=
  AQ.stepK hi hg fun g a w hs K Q' hK => h g a w hs K Q' fun s' a' w' ⟨v, h1, h2, e⟩ h3 h4 => hK s' a' w' (by subst e; exact hN v h1 h2) h3 h4
theorem AQ.rd1 {v : V} (hi : L[i]? = some o) (hg : o.guard = none) (hd : dok s o = true) (h : RD c o s v) (hN : AQ r c L.toArray Q need l (s.put o.dst v)) : AQ r c L.toArray Q need ((i, false) :: l) s := AQ.stepK hi hg (h.stepK hd hN)
theorem AQ.rp1 {v : V} (hi : L[i]? = some o) (hg : o.guard = none) (hd : dok s o = true) (h : RP c o s v) (hN : AQ r c L.toArray Q need l (s.put o.dst v)) : AQ r c L.toArray Q need ((i, false) :: l) s := AQ.rd1 hi hg hd h.rd hN
theorem AQ.rp {v : V} (hi : L[i]? = some o) (hg : o.guard = none) (hd : dok s o = true) (hp : noP Q) (h : RP c o s v) (hN : AQ r c L.toArray Q need l (s.put o.dst v)) : AQ r c L.toArray Q need ((i, true) :: l) s := fun W g a w hs hb hr => by
  obtain ⟨x, h1, h2⟩ := h g a w hs
  exact ⟨o, x, by simpa using hi, .inl ⟨by simp [Region.wanted, hg], fun w' _ => h2 w'⟩, hb, QQ_noP hp _ _, hN W g _ w (hs.put o.dst (dok_spec hd) h1) hb hr⟩
theorem AQ.st {row row' : Row} (hi : L[i]? = some o) (hg : o.guard = none) (h : StepS c o s r row' ∧ row.nil = false ∧ fnd s.H r = some row) (hN : AQ r c L.toArray Q need l { s with H := (r, row') :: s.H }) : AQ r c L.toArray Q need ((i, false) :: l) s := fun W g a w hs hb hr =>
  wpOp_of (by simpa using hi) hg (h.1 g a w hs _ _ fun a' w' h2 h3 => by
    have hb' : Below W.heap.size W w' := ⟨by rw [← hb.os, h2.below.os, hs.below.os], by rw [← hb.tape, h2.below.tape, hs.below.tape], by rw [← hb.output, h2.below.output, hs.below.output], by rw [h3.1]; exact hb.size, fun k hk => (h3.2 k (by omega)).trans (hb.block k hk)⟩
    exact ⟨fun _ => hb', hN W g a' w' h2 hb' hr⟩)
theorem AQ.nil (h : Q .normal s) : AQ r c L.toArray Q need [] s := fun W g a w hs _ _ => ⟨g, s, h, hs⟩
end
end Go.Proofs.YtkikceoccmoanaaGreatDoor
namespace Go.Proofs.YtkikceoccmoanaaGreatDoor
open Go.RowKit
set_option linter.unusedSimpArgs false
set_option linter.unusedVariables false

theorem reps_nil {w : World} {q : Nat → Prop} {g : Nat → Nat × Nat} : VReps w q g [] [] := ⟨rfl, by simp⟩
theorem reps_cons {w : World} {q : Nat → Prop} {g : Nat → Nat × Nat} {v : V} {x : Value} {vs : List V} {xs : List Value} (h : VRep w q g v x) (hs : VReps w q g vs xs) : VReps w q g (v :: vs) (x :: xs) :=
  ⟨by simp [hs.1], fun j u y hu hy => by
    cases j with
    | zero => simp at hu hy; subst hu hy; exact h
    | succ j => exact hs.2 j u y (by simpa using hu) (by simpa using hy)⟩
end Go.Proofs.YtkikceoccmoanaaGreatDoor
namespace Go.Proofs.YtkikceoccmoanaaGreatDoor
open Go.RowKit
set_option linter.unusedSimpArgs false
set_option linter.unusedVariables false
set_option maxRecDepth 100000

section
variable {c : Cx} {s : S} {o : Oper}
variable {Q : Exit → S → Prop} {L : List Oper} {need : Nat → Bool} {l : List (Nat × Bool)} {i r : Nat}
theorem AE1.rxy {v : V} {j : Nat} {b : Bool} (hi : L[i]? = some o) (hg : o.guard = some (j, b)) (hy : yld L.toArray s j = some b) (hd : dok s o = true) (hp : noP Q) (h : RX c o s r v) (hN : AE1 c L.toArray Q need r l (s.put o.dst v)) : AE1 c L.toArray Q need r ((i, true) :: l) s := fun e g a w hs he hl => by
  obtain ⟨x, h1, h2⟩ := h e g a w hs he
  exact ⟨o, x, by simpa using hi, .inl ⟨by simp [Region.wanted, hg, yld_spec hy hs], h2⟩, BX.refl _, QQ_noP hp _ _, hN e g _ w (hs.put o.dst (dok_spec hd) h1) he.put hl⟩
theorem AE1.rpy {v : V} {j : Nat} {b : Bool} (hi : L[i]? = some o) (hg : o.guard = some (j, b)) (hy : yld L.toArray s j = some b) (hd : dok s o = true) (hp : noP Q) (h : RP c o s v) (hN : AE1 c L.toArray Q need r l (s.put o.dst v)) : AE1 c L.toArray Q need r ((i, true) :: l) s := AE1.rxy hi hg hy hd hp h.rx hN
theorem AE1.no {j : Nat} {b b' : Bool} (hi : L[i]? = some o) (hg : o.guard = some (j, b)) (hy : yld L.toArray s j = some b') (hb : (b' == b) = false) (hd : dok s o = true) (hp : noP Q) (hN : AE1 c L.toArray Q need r l (s.put o.dst .junk)) : AE1 c L.toArray Q need r ((i, true) :: l) s := fun e g a w hs he hl =>
  ⟨o, undef, by simpa using hi, .inr ⟨by simp only [Region.wanted, hg, yld_spec hy hs]; simpa using hb, rfl⟩, BX.refl _, QQ_noP hp _ _, hN e g _ w (hs.put o.dst (dok_spec hd) (.junk _)) he.put hl⟩
theorem AE1.noV {j : Nat} {b b' : Bool} (hi : L[i]? = some o) (hg : o.guard = some (j, b)) (hy : yld L.toArray s j = some b') (hb : (b' == b) = false) (hd : dok s o = true) (hp : noP Q) (hN : AE1 c L.toArray Q need r l (s.put o.dst (.d (.p undef)))) : AE1 c L.toArray Q need r ((i, true) :: l) s := fun e g a w hs he hl =>
  ⟨o, undef, by simpa using hi, .inr ⟨by simp only [Region.wanted, hg, yld_spec hy hs]; simpa using hb, rfl⟩, BX.refl _, QQ_noP hp _ _, hN e g _ w (hs.put o.dst (dok_spec hd) (.d _ _ (.p _))) he.put hl⟩
theorem AE1.noU {j : Nat} {b : Bool} (hi : L[i]? = some o) (hg : o.guard = some (j, b)) (hy : und L.toArray s j) (hd : dok s o = true) (hp : noP Q) (hN : AE1 c L.toArray Q need r l (s.put o.dst (.d (.p undef)))) : AE1 c L.toArray Q need r ((i, true) :: l) s := fun e g a w hs he hl =>
  ⟨o, undef, by simpa using hi, .inr ⟨by simp only [Region.wanted, hg, und_spec hy hs]; simp, rfl⟩, BX.refl _, QQ_noP hp _ _, hN e g _ w (hs.put o.dst (dok_spec hd) (.d _ _ (.p _))) he.put hl⟩
end
end Go.Proofs.YtkikceoccmoanaaGreatDoor
namespace Go.Proofs.YtkikceoccmoanaaGreatDoor
open Go.RowKit
set_option linter.unusedSimpArgs false
set_option linter.unusedVariables false
section
variable {c : Cx} {s : S} {o : Oper}
end
end Go.Proofs.YtkikceoccmoanaaGreatDoor
namespace Go.Proofs.YtkikceoccmoanaaGreatDoor
open Go.RowKit
set_option linter.unusedSimpArgs false
set_option linter.unusedVariables false

section
variable {c : Cx} {s : S} {o : Oper}
theorem st_enter (l : List Nat) {ts : List V} {f : FuncId} {fn : Func} {code : Code} {n : Nat} {rs : List ResultVar} {ars : List V} {N : S → Prop} (hts : l.map (fun i => fnd s.T i) = ts.map some) (hf : Is c.P f fn code n rs) (hn : ars.length ≤ n) (hd : dok s o = true)
    (hex : ∀ g a w, Sim c g s a w → ∃ xs : List Value, (execOp a.eval o).run c.P w = .ok (.enter f xs.toArray) w ∧ VReps w (qt c s.H g) g ars xs)
    (h : ∀ kx, AW ⟨c.P, c.w0, c.out, kx, []⟩ code (QI c.P rs s.n l o.dst N) ⟨n, enum 0 ars, s.H, ts ++ s.K⟩) : Step c o s N := by
  intro g a w hs K Q hK
  obtain ⟨xs, hrun, harl, harg⟩ := hex g a w hs
  have hll : l.length = ts.length := by simpa using congrArg List.length hts
  have hlt : ∀ (j i : Nat) (v : V), l[j]? = some i → ts[j]? = some v → fnd s.T i = some v := by
    intro j i v h1 h2
    have h3 := congrArg (fun l => l[j]?) hts
    simp only [List.getElem?_map, h1, h2, Option.map_some, Option.some.injEq] at h3
    exact h3
  have hlt' : ∀ (j i : Nat), l[j]? = some i → ∃ v x, ts[j]? = some v ∧ fnd s.T i = some v ∧ a.tmps[i]? = some x ∧ VRep w (qt c s.H g) g v x := by
    intro j i h1
    have hj : j < ts.length := by rw [← hll]; exact (List.getElem?_eq_some_iff.1 h1).1
    have h2 := hlt j i ts[j] h1 (List.getElem?_eq_getElem hj)
    obtain ⟨x, h3, h4⟩ := hs.tmp i _ h2
    exact ⟨_, x, List.getElem?_eq_getElem hj, h2, h3, h4⟩
  have hsim : Sim ⟨c.P, c.w0, c.out, l.map (fun i => a.tmps.getD i undef) ++ c.kx, []⟩ g ⟨n, enum 0 ars, s.H, ts ++ s.K⟩ { tmps := xs.toArray ++ Array.replicate (fn.ntmps - xs.toArray.size) undef, defers := [] } w := by
    refine ⟨?_, rfl, ?_, hs.nul, hs.obj, ?_, hs.inj, hs.base, hs.low, hs.below⟩
    · simp [hf.ntmps]; omega
    · intro i v hv
      obtain ⟨_, h2⟩ := fnd_enum _ 0 i v hv
      simp only [Nat.sub_zero] at h2
      have hi : i < xs.length := by
        have := (List.getElem?_eq_some_iff.1 h2).1
        omega
      refine ⟨xs[i], ?_, ?_⟩
      · rw [hf.ntmps]
        exact enter_get (List.getElem?_eq_getElem hi) (by omega)
      · exact harg i v _ h2 (List.getElem?_eq_getElem hi)
    · intro j v x h1 h2
      by_cases hj : j < ts.length
      · rw [List.getElem?_append_left hj] at h1
        rw [List.getElem?_append_left (by simp; omega)] at h2
        simp only [List.getElem?_map] at h2
        cases h3 : l[j]? with
        | none => rw [h3] at h2; cases h2
        | some i =>
          rw [h3] at h2
          simp only [Option.map_some, Option.some.injEq] at h2
          obtain ⟨v', x', h4, h5, h6, h7⟩ := hlt' j i h3
          rw [h4] at h1
          simp only [Option.some.injEq] at h1
          subst h1
          have : x = x' := by rw [← h2]; simp [Array.getD_eq_getD_getElem?, h6]
          subst this
          exact h7
      · rw [List.getElem?_append_right (by omega)] at h1
        rw [List.getElem?_append_right (by simp; omega)] at h2
        refine hs.keep (j - ts.length) v x h1 ?_
        simpa [hll] using h2
  unfold Oper.wp
  rw [hrun]
  simp only [Oper.upon]
  refine calls_of_wp hf.func hf.body (wp_mono (h (l.map (fun i => a.tmps.getD i undef) ++ c.kx) g _ w hsim) fun e a1 w1 hq => ?_)
  obtain ⟨g1, s1, h1, h2⟩ := hq
  have fin : (∃ vs, resL c.P s1 rs vs ∧ N (S.put ⟨s.n, l.zip s1.K, s1.H, s1.K.drop l.length⟩ o.dst (tupOf vs))) →
      a1.defers = [] ∧ ∃ v, (results fn a1.tmps).run c.P w1 = .ok v w1 ∧ K (a.put o.dst v) w1 := by
    rintro ⟨vs, k1, k2⟩
    obtain ⟨x, k3, k4⟩ := run_results (c := ⟨c.P, c.w0, c.out, l.map (fun i => a.tmps.getD i undef) ++ c.kx, []⟩) hf.results h2 k1
    refine ⟨h2.defers, x, k4, ?_⟩
    refine hK g1 _ _ _ k2 (Sim.put (s := ⟨s.n, l.zip s1.K, s1.H, s1.K.drop l.length⟩) (c := c) ?_ o.dst (dok_spec (s := s) hd) k3)
    refine ⟨hs.size, hs.defers, ?_, h2.nul, h2.obj, ?_, h2.inj, h2.base, h2.low, h2.below⟩
    · intro i v hv
      obtain ⟨j, h3, h4⟩ := fnd_zip _ _ i v hv
      obtain ⟨v', x', h5, h6, h7, h8⟩ := hlt' j i h3
      refine ⟨x', h7, h2.keep j v x' h4 ?_⟩
      have hj : j < l.length := (List.getElem?_eq_some_iff.1 h3).1
      simp only
      rw [List.getElem?_append_left (by simpa using hj)]
      simp [h3, Array.getD_eq_getD_getElem?, h7]
    · intro j v x h3 h4
      refine h2.keep (l.length + j) v x (by simpa using h3) ?_
      simp only
      rw [List.getElem?_append_right (by simp)]
      simpa using h4
  cases e with
  | normal => exact fin h1
  | ret => exact fin h1
  | _ => exact h1.elim
end

/-- How a call ends that worked on its caller's objects: result, objects, kept values. -/
def QP (P : Program) (rs : List ResultVar) (post : V → List (Nat × Row) → List V → Prop) : Exit → S → Prop
  | .normal, s => ∃ vs, resL P s rs vs ∧ post (tupOf vs) s.H s.K
  | .ret, s => ∃ vs, resL P s rs vs ∧ post (tupOf vs) s.H s.K
  | _, _ => False
/-- How the caller goes on. -/
def back (s : S) (l : List Nat) (d : Option Tmp) (v : V) (H : List (Nat × Row)) (K : List V) : S := S.put ⟨s.n, l.zip K, H, K.drop l.length⟩ d v
/-- A call of function f with the objects H and the kept values K. -/
def PC (P : Program) (f : FuncId) (args : List V) (H : List (Nat × Row)) (K : List V) (post : V → List (Nat × Row) → List V → Prop) : Prop :=
  ∀ (c : Cx) (s : S) (o : Oper) (fx : Operand) (xs : Array Operand) (tys : Array TypeId) (l : List Nat) (ts : List V), c.P = P → o.op = .call { callee := .value fx, args := xs, argTypes := tys } → s.ev fx = some (.fn f []) → xs.toList.map s.ev = args.map some →
    l.map (fun i => fnd s.T i) = ts.map some → s.H = H → ts ++ s.K = K → dok s o = true → Step c o s (fun s' => ∃ v H' K', post v H' K' ∧ s' = back s l o.dst v H' K')
/-- A call of a method through an interface value that holds v of type t. -/
def PM (P : Program) (t : TypeId) (v : V) (name : String) (args : List V) (H : List (Nat × Row)) (K : List V) (post : V → List (Nat × Row) → List V → Prop) : Prop :=
  ∀ (c : Cx) (s : S) (o : Oper) (rx : Operand) (xs : Array Operand) (tys : Array TypeId) (l : List Nat) (ts : List V), c.P = P → o.op = .call { callee := .invoke rx name, args := xs, argTypes := tys } → s.ev rx = some (.ifc t v) → xs.toList.map s.ev = args.map some →
    l.map (fun i => fnd s.T i) = ts.map some → s.H = H → ts ++ s.K = K → dok s o = true → Step c o s (fun s' => ∃ v H' K', post v H' K' ∧ s' = back s l o.dst v H' K')

theorem QP.toQI {P : Program} {rs : List ResultVar} {post : V → List (Nat × Row) → List V → Prop} {s : S} {l : List Nat} {d : Option Tmp} {e : Exit} {s1 : S} (h : QP P rs post e s1) : QI P rs s.n l d (fun s' => ∃ v H' K', post v H' K' ∧ s' = back s l d v H' K') e s1 := by
  cases e with
  | normal => obtain ⟨vs, h1, h2⟩ := h; exact ⟨vs, h1, _, _, _, h2, rfl⟩
  | ret => obtain ⟨vs, h1, h2⟩ := h; exact ⟨vs, h1, _, _, _, h2, rfl⟩
  | _ => exact h.elim
theorem PC.intro {P : Program} {f : FuncId} {fn : Func} {code : Code} {n : Nat} {rs : List ResultVar} {args : List V} {H : List (Nat × Row)} {K : List V} {post : V → List (Nat × Row) → List V → Prop} (hf : Is P f fn code n rs) (hn : args.length ≤ n)
    (h : ∀ w0 out kx, AW ⟨P, w0, out, kx, []⟩ code (QP P rs post) ⟨n, enum 0 args, H, K⟩) : PC P f args H K post := by
  intro c s o fx xs tys l ts hP ho hfx hargs hts hH hK hd
  subst hP hH hK
  refine st_enter l hts hf hn hd (fun g a w hs => ?_) (fun kx => (h c.w0 c.out kx).mono fun e s1 hq => hq.toQI)
  obtain ⟨cs, hfv, hcl, _⟩ := fn_eval hs hfx
  obtain rfl : cs = [] := by cases cs with | nil => rfl | cons => simp at hcl
  exact ⟨_, by rw [exec_call (caps := []) hf ho hfv, List.append_nil], args_eval hs hargs⟩
theorem exec_invoke1 {c : Cx} {o : Oper} {ρ : Operand → Value} {rx : Operand} {name : String} {xs : Array Operand} {ts : Array TypeId} {f : FuncId} {fn : Func} {code : Code} {n : Nat} {rs : List ResultVar} {t : TypeId} {v v' : Value} {w : World} (hf : Is c.P f fn code n rs) (ho : o.op = .call { callee := .invoke rx name, args := xs, argTypes := ts })
    (hfx : ρ rx = .iface t v) (hm : (method (c.P.types.size + Made.depth) t v name).run c.P w = .ok (f, v') w) : (execOp ρ o).run c.P w = .ok (.enter f (v' :: xs.toList.map ρ).toArray) w := by
  have hb : fn.body.isNone = false := by rw [hf.body]; rfl
  have hn := hf.name
  simp only [execOp, ho, resolve, hfx, Sem.run_bind, Sem.run_pure, Result.andThen_ok, invoke]
  have h0 : (#[Value.iface t v] ++ xs.map ρ)[0]? = some (.iface t v) := by simp [Array.getElem?_append_left]
  rw [h0]
  simp only [callMethod, Sem.run_bind, run_program, Result.andThen_ok, hm]
  simp only [callFunc, Sem.run_bind, run_program, Result.andThen_ok, hf.func]
  simp at hn
  have hb' : ¬ fn.body = none := by rw [hf.body]; simp
  simp [hn, hb', hb, ← Array.toList_map]
  rw [List.take_of_length_le (by simp)]
theorem ifc_eval {c : Cx} {s : S} {g : Nat → Nat × Nat} {a : Act} {w : World} (hs : Sim c g s a w) {rx : Operand} {t : TypeId} {v : V} (hx : s.ev rx = some (.ifc t v)) : ∃ x, a.eval rx = .iface t x ∧ VRep w (qt c s.H g) g v x := by
  have h := hs.ev hx
  generalize a.eval rx = u at h
  cases h with | ifc _ _ x h => exact ⟨x, rfl, h⟩
theorem reps_cons' {w : World} {q : Nat → Prop} {g : Nat → Nat × Nat} {v : V} {x : Value} {vs : List V} {xs : List Value} (h : VRep w q g v x) (hs : VReps w q g vs xs) : VReps w q g (v :: vs) (x :: xs) :=
  ⟨by simp [hs.1], fun j u y hu hy => by
    cases j with
    | zero => simp at hu hy; subst hu hy; exact h
    | succ j => exact hs.2 j u y (by simpa using hu) (by simpa using hy)⟩
/-- A method of what the pointer points to. -/
theorem PM.val {P : Program} {t : TypeId} {r k : Nat} {name : String} {f : FuncId} {fn : Func} {code : Code} {n : Nat} {rs : List ResultVar} {args : List V} {H : List (Nat × Row)} {K : List V} {post : V → List (Nat × Row) → List V → Prop} {row : Row} {v : V} (hf : Is P f fn code n rs) (hn : args.length + 1 ≤ n)
    {md : Mode} (hm : ∀ p w, (method (P.types.size + Made.depth) t (.pointer (some p)) name).run P w = (Sem.load md p (fun v => .pure (f, v))).run P w)
    (hr : fnd H r = some row) (hnl : row.nil = false) (hv : row.cells[k]? = some v)
    (h : ∀ w0 out kx, AW ⟨P, w0, out, kx, []⟩ code (QP P rs post) ⟨n, enum 0 (v :: args), H, K⟩) : PM P t (.ref r k) name args H K post := by
  intro c s o rx xs tys l ts hP ho hrx hargs hts hH hK hd
  subst hP hH hK
  refine st_enter l hts hf (by simpa using hn) hd (fun g a w hs => ?_) (fun kx => (h c.w0 c.out kx).mono fun e s1 hq => hq.toQI)
  obtain ⟨x, h1, h2⟩ := ifc_eval hs hrx
  cases h2
  obtain ⟨arr, h3, _, h4⟩ := hs.obj r row hr hnl
  obtain ⟨y, h5, h6⟩ := h4 k v hv
  have hcell : w.cell? ⟨(g r).1, k, none⟩ = some y := (cell_of_row w _ _ _ _ _ h3).trans h5
  refine ⟨_, exec_invoke1 (v' := y) hf ho h1 ?_, reps_cons' h6 (args_eval hs hargs)⟩
  rw [hm]
  simp [Sem.run, hcell]
theorem PM.mono {P : Program} {t : TypeId} {v : V} {name : String} {args : List V} {H : List (Nat × Row)} {K : List V} {post post' : V → List (Nat × Row) → List V → Prop} (h : PM P t v name args H K post) (hp : ∀ v H K, post v H K → post' v H K) : PM P t v name args H K post' :=
  fun c s o rx xs tys l ts h1 h2 h3 h4 h5 h6 h7 h8 g a w hs K' Q' hK => h c s o rx xs tys l ts h1 h2 h3 h4 h5 h6 h7 h8 g a w hs K' Q' fun g' s' a' w' ⟨u, H', K2, k1, k2⟩ k3 => hK g' s' a' w' ⟨u, H', K2, hp _ _ _ k1, k2⟩ k3

section
variable {c : Cx} {s : S} {o : Oper} {Q : Exit → S → Prop} {ops : Array Oper} {rest : List Oper}
theorem AL.pc {P : Program} {f : FuncId} {args : List V} {H : List (Nat × Row)} {K : List V} {post : V → List (Nat × Row) → List V → Prop} {fx : Operand} {xs : Array Operand} {tys : Array TypeId} (l : List Nat) {ts : List V} (h : PC P f args H K post) (hg : o.guard = none) (hP : c.P = P) (ho : o.op = .call { callee := .value fx, args := xs, argTypes := tys }) (hfx : s.ev fx = some (.fn f [])) (hargs : xs.toList.map s.ev = args.map some)
    (hts : l.map (fun i => fnd s.T i) = ts.map some) (hH : s.H = H) (hK : ts ++ s.K = K) (hd : dok s o = true) (hN : ∀ v H' K', post v H' K' → AL c ops rest Q (back s l o.dst v H' K')) : AL c ops (o :: rest) Q s :=
  AL.step hg fun g a w hs K' Q' hK' => h c s o fx xs tys l ts hP ho hfx hargs hts hH hK hd g a w hs K' Q' fun g' s' a' w' ⟨v, H', K2, h1, h2⟩ h3 => hK' g' s' a' w' (by subst h2; exact hN _ _ _ h1) h3
/-- Objects and kept values that lie below: none of them is one of the heap's. -/
structure Lw (H : List (Nat × Row)) (K : List V) : Prop where
  obj : ∀ x ∈ H, x.1 < 900 ∧ V.lowL 901 x.2.cells = true
  keep : V.lowL 901 K = true
theorem Lw.all {H : List (Nat × Row)} {K : List V} (h : Lw H K) : ∀ r, 901 ≤ r → H.all (fun x => x.1 != r && !V.hasL r x.2.cells) = true := fun r hr => by
  rw [List.all_eq_true]
  intro x hx
  obtain ⟨h1, h2⟩ := h.obj x hx
  rw [V.lowL_has hr _ h2]
  simp; omega
theorem Lw.has {H : List (Nat × Row)} {K : List V} (h : Lw H K) : ∀ r, 901 ≤ r → V.hasL r K = false := fun r hr => V.lowL_has hr _ h.keep
theorem Lw.fnd {H : List (Nat × Row)} {K : List V} (h : Lw H K) : ∀ r, 900 ≤ r → Go.Proofs.YtkikceoccmoanaaGreatDoor.fnd H r = none := fun r hr => by
  cases hh : Go.Proofs.YtkikceoccmoanaaGreatDoor.fnd H r with
  | none => rfl
  | some row => have := (h.obj _ (fnd_mem hh)).1; simp only at this; omega
theorem Lw.forgetK {H : List (Nat × Row)} {K : List V} (h : Lw H K) : ∀ r, 901 ≤ r → K.map (junkIf r) = K := fun r hr => by
  have h1 := V.hasL_false.1 (h.has r hr)
  have : ∀ (l : List V), (∀ v ∈ l, v.has r = false) → l.map (junkIf r) = l := by
    intro l
    induction l with
    | nil => intro _; rfl
    | cons v l ih =>
      intro hl
      rw [List.map_cons, ih fun v hv => hl v (by simp [hv]), junkIf, if_neg (by rw [hl v (by simp)]; simp)]
  exact this K h1
theorem Lw.forgetH {H : List (Nat × Row)} {K : List V} (h : Lw H K) : ∀ r, 901 ≤ r → (H.filter (fun x => x.1 != r)).map (fun x => (x.1, { x.2 with cells := if V.hasL r x.2.cells then x.2.cells.map (junkIf r) else x.2.cells })) = H := fun r hr => by
  have : ∀ (l : List (Nat × Row)), (∀ x ∈ l, x.1 < 900 ∧ V.lowL 901 x.2.cells = true) → (l.filter (fun x => x.1 != r)).map (fun x => (x.1, { x.2 with cells := if V.hasL r x.2.cells then x.2.cells.map (junkIf r) else x.2.cells })) = l := by
    intro l
    induction l with
    | nil => intro _; rfl
    | cons x l ih =>
      intro hl
      obtain ⟨h1, h2⟩ := hl x (by simp)
      rw [List.filter_cons, if_pos (by simp; omega), List.map_cons, ih fun x hx => hl x (by simp [hx]), V.lowL_has hr _ h2]
      simp
  exact this H h.obj
/-- The objects as a call wants them: the variable, its slice, all others. -/
theorem Less.hp {s : S} {T : List (Nat × V)} {b r : Row} {H0 : List (Nat × Row)} (hT : LT s T) (h1 : fnd s.H 900 = some b) (h2 : fnd s.H 901 = some r) (h3 : ∀ k row, fnd H0 k = some row → fnd s.H k = some row) : Less ⟨s.n, T, (900, b) :: (901, r) :: H0, s.K⟩ s := by
  refine ⟨rfl, fun i v h => hT.get i v h, fun k row h => ⟨row, ?_, rfl, rfl, rfl, fun j v hv => ⟨v, hv, .refl _⟩⟩, fun j v h => ⟨v, h, .refl _⟩⟩
  simp only [fnd] at h
  split at h
  · rename_i e
    simp only [beq_iff_eq] at e
    subst e
    rw [h1]; exact h
  · split at h
    · rename_i e
      simp only [beq_iff_eq] at e
      subst e
      rw [h2]; exact h
    · exact h3 k row h
theorem LH.of {s : S} {l : List (Nat × Row)} (h : LH s l) : ∀ k row, fnd l k = some row → fnd s.H k = some row := h.get
theorem Lw.low {H : List (Nat × Row)} {K : List V} (h : Lw H K) {T : List (Nat × Row)} (hT : T.all (fun x => decide (900 ≤ x.1)) = true) : ∀ k row, Go.Proofs.YtkikceoccmoanaaGreatDoor.fnd H k = some row → Go.Proofs.YtkikceoccmoanaaGreatDoor.fnd (T ++ H) k = some row := fun k row hk => by
  have hlt : k < 900 := (h.obj _ (fnd_mem hk)).1
  induction T with
  | nil => exact hk
  | cons x T ih =>
    simp only [List.all_cons, Bool.and_eq_true, decide_eq_true_eq] at hT
    obtain ⟨i, y⟩ := x
    simp only at hT
    simp only [List.cons_append, Go.Proofs.YtkikceoccmoanaaGreatDoor.fnd]
    rw [if_neg (by simp; omega)]
    exact ih hT.2
theorem Lw.keepL {H : List (Nat × Row)} {K : List V} (h : Lw H K) (ts : List V) (ht : V.lowL 901 ts = true) : Lw H (ts ++ K) := ⟨h.obj, by
  have : ∀ (l : List V), V.lowL 901 l = true → V.lowL 901 (l ++ K) = true := by
    intro l
    induction l with
    | nil => intro _; exact h.keep
    | cons v l ih =>
      intro hl
      simp only [V.lowL, Bool.and_eq_true] at hl
      simp only [List.cons_append, V.lowL, Bool.and_eq_true]
      exact ⟨hl.1, ih hl.2⟩
  exact this ts ht⟩
theorem S.clean_hp {n r : Nat} {T : List (Nat × V)} {L H0 : List (Nat × Row)} {K : List V} (hl : Lw H0 K) (hr : 901 ≤ r) (hT : T.all (fun x => !x.2.has r) = true) (hL : L.all (fun x => x.1 != r && !V.hasL r x.2.cells) = true) : S.clean ⟨n, T, L ++ H0, K⟩ r = true := by
  simp only [S.clean, List.all_append, hT, hL, hl.all r hr, hl.has r hr]
  rfl
/-- As QP, from a state that may know more. -/
def QPW (P : Program) (rs : List ResultVar) (post : V → List (Nat × Row) → List V → Prop) : Exit → S → Prop
  | .normal, s => ∃ s', Less s' s ∧ QP P rs post .normal s'
  | .ret, s => ∃ s', Less s' s ∧ QP P rs post .ret s'
  | _, _ => False
theorem AW.weaken {P : Program} {rs : List ResultVar} {post : V → List (Nat × Row) → List V → Prop} {x : Code} (h : AW c x (QPW P rs post) s) : AW c x (QP P rs post) s := fun g a w hs => wp_mono (h g a w hs) fun e a' w' hq => by
  obtain ⟨g', s1, h1, h3⟩ := hq
  cases e <;> first | (obtain ⟨s2, h4, h5⟩ := h1; exact ⟨g', s2, h5, h3.less h4⟩) | exact h1.elim
end
end Go.Proofs.YtkikceoccmoanaaGreatDoor
namespace Go.Proofs.YtkikceoccmoanaaGreatDoor
open Go.RowKit
set_option linter.unusedSimpArgs false
set_option linter.unusedVariables false

section
variable {P : Program} {ops : Array Oper} {Q : Exit → Act → World → Prop} {md : Region.Mode} {T : World → Prop} {need : Nat → Bool}
def anyF (P : Program) (md : Region.Mode) (ops : Array Oper) (Q : Exit → Act → World → Prop) (T : World → Prop) (need : Nat → Bool) : Nat → Array Bool → Act → World → Prop
  | 0, listed, a, w => Region.ready md ops listed = [] ∧ Q .normal a w
  | n + 1, listed, a, w => (Region.ready md ops listed = [] → Q .normal a w) ∧
      ∀ i ∈ Region.ready md ops listed, wpOp P ops Q i (fun a' w' => (need i = true → T w → T w') ∧ anyF P md ops Q T need n (listed.setIfInBounds i true) a' w') a w
theorem any_of_anyF : ∀ (n : Nat) (listed : Array Bool) (a : Act) (w : World), anyF P md ops Q T need n listed a w → wpAny P md ops Q n listed a w
  | 0, _, _, _, h => h
  | n + 1, _, _, _, h => ⟨h.1, fun i hi => wpOp_mono (fun a' w' h' => any_of_anyF n _ a' w' h'.2) (h.2 i hi)⟩
theorem not_listed {listed : Array Bool} {i : Nat} (hr : i ∈ Region.ready md ops listed) : listed.getD i false = false := by
  have hil := (mem_ready.1 hr).1
  rw [Array.getD_eq_getD_getElem?] at hil ⊢
  cases hl : listed[i]? with
  | none => rw [hl] at hil; cases hil
  | some b => rw [hl] at hil; exact hil
theorem anyF_early {k i N : Nat} {oi : Oper} {v : Value} {S : World → Prop} (hk : (k = 2 ∧ S = fun _ => True) ∨ (k = 1 ∧ S = T ∧ ∀ j, j ≠ i → j < ops.size → need j = true ∨ reachB md ops N j i = true)) (hi : ops[i]? = some oi) (hsel : ∀ (j : Nat) (o : Oper) cs b, ops[j]? = some o → o.op ≠ .select cs b)
    (hQ : ∀ c a w, Q (.panic c) (a.put oi.dst v) w → Q (.panic c) a w) (n : Nat) :
    ∀ (listed : Array Bool) (a : Act) (w : World), closedL md ops listed →
      (∀ j oj, ops[j]? = some oj → j ≠ i → listed.getD j true = false → (∀ e ∈ oj.after, Region.binds md e = true → e.on ≠ i) → oi.apart ops oj = true) →
      i ∈ Region.ready md ops listed → YieldsIf P ops S oi v a → S w →
      anyF P md ops Q T need n (listed.setIfInBounds i true) (a.put oi.dst v) w → anyF P md ops Q T need (n + 1) listed a w := by
  induction n with
  | zero =>
    intro listed a w hcl hfree hr hy hS H
    refine ⟨fun h => by rw [h] at hr; exact absurd hr List.not_mem_nil, fun j hj => ?_⟩
    by_cases hji : j = i
    · subst hji
      exact hy.wpOp hi hS ⟨fun _ h => h, H⟩
    · have hm := ready_mono hj hji
      rw [H.1] at hm
      exact absurd hm List.not_mem_nil
  | succ n ih =>
    intro listed a w hcl hfree hr hy hS H
    refine ⟨fun h => by rw [h] at hr; exact absurd hr List.not_mem_nil, fun j hj => ?_⟩
    by_cases hji : j = i
    · subst hji
      exact hy.wpOp hi hS ⟨fun _ h => h, H⟩
    · have hij : i ≠ j := fun h => hji h.symm
      have hnext := H.2 j (ready_mono hj hji)
      obtain ⟨hjl, oj, hoj, hdone⟩ := mem_ready.1 hj
      have hil' := not_listed hr
      have hno : ∀ e ∈ oj.after, Region.binds md e = true → e.on ≠ i := by
        intro e he hb hei
        have hd := hdone e he hb
        rw [hei, hil'] at hd
        cases hd
      have hstep := wpOp_putIf hoj (hfree j oj hoj hji hjl hno) (fun cs b => hsel i oi cs b hi) (fun cs b => hsel j oj cs b hoj) hQ hy hnext
      refine wpOp_mono (fun a' w' h3 => ?_) hstep
      obtain ⟨hy', hS', hrest⟩ := h3
      have hSw : S w' := by
        rcases hk with ⟨_, rfl⟩ | ⟨_, rfl, hz⟩
        · trivial
        · refine hS' ?_ hS
          rcases hz j hji (Array.getElem?_eq_some_iff.1 hoj).1 with h | h
          · exact h
          · have := reach_ready hcl h hj
            rw [hil'] at this
            cases this
      refine ⟨hS', ih _ a' w' (closed_set hcl hj) ?_ (ready_mono hr hij) hy' hSw ?_⟩
      · intro k ok hk hki hkl hkn
        refine hfree k ok hk hki ?_ hkn
        by_cases hjk : j = k
        · subst hjk
          exact hjl
        · rwa [getD_set_ne true hjk] at hkl
      · rw [Array.setIfInBounds_comm _ _ hji]
        exact hrest
def ASeqF (P : Program) (ops : Array Oper) (Q : Exit → Act → World → Prop) (T : World → Prop) (need : Nat → Bool) : List (Nat × Nat) → Act → World → Prop
  | [], a, w => Q .normal a w
  | (i, 0) :: r, a, w => wpOp P ops Q i (fun a' w' => (need i = true → T w → T w') ∧ ASeqF P ops Q T need r a' w') a w
  | (i, 1) :: r, a, w => ∃ oi x, ops[i]? = some oi ∧ YieldsIf P ops T oi x a ∧ T w ∧ (∀ c a w, Q (.panic c) (a.put oi.dst x) w → Q (.panic c) a w) ∧ ASeqF P ops Q T need r (a.put oi.dst x) w
  | (i, _ + 2) :: r, a, w => ∃ oi x, ops[i]? = some oi ∧ YieldsIf P ops (fun _ => True) oi x a ∧ (∀ c a w, Q (.panic c) (a.put oi.dst x) w → Q (.panic c) a w) ∧ ASeqF P ops Q T need r (a.put oi.dst x) w
def okF (md : Region.Mode) (ops : Array Oper) (need : Nat → Bool) (N : Nat) : List (Nat × Nat) → Array Bool → Bool
  | [], listed => (Region.ready md ops listed).isEmpty
  | (i, 0) :: r, listed => (Region.ready md ops listed == [i]) && okF md ops need N r (listed.setIfInBounds i true)
  | (i, 1) :: r, listed => (Region.ready md ops listed).contains i && Region.free md ops listed i && ((List.range ops.size).all fun j => j == i || need j || reachB md ops N j i) && okF md ops need N r (listed.setIfInBounds i true)
  | (i, _ + 2) :: r, listed => (Region.ready md ops listed).contains i && Region.free md ops listed i && okF md ops need N r (listed.setIfInBounds i true)
theorem anyF_of {N : Nat} (hsel : Region.noSelect ops = true) : ∀ (l : List (Nat × Nat)) (listed : Array Bool) (a : Act) (w : World), closedL md ops listed → okF md ops need N l listed = true → ASeqF P ops Q T need l a w → anyF P md ops Q T need l.length listed a w
  | [], listed, a, w, _, hok, h => ⟨by simpa [okF] using hok, h⟩
  | (i, 0) :: r, listed, a, w, hcl, hok, h => by
    simp only [okF, Bool.and_eq_true, beq_iff_eq] at hok
    obtain ⟨h1, h2⟩ := hok
    have hr : i ∈ Region.ready md ops listed := by rw [h1]; exact List.mem_singleton.2 rfl
    refine ⟨fun h0 => (by rw [h0] at h1; cases h1), fun j hj => ?_⟩
    rw [h1] at hj
    obtain rfl := List.mem_singleton.1 hj
    exact wpOp_mono (fun a' w' h' => ⟨h'.1, anyF_of hsel r _ a' w' (closed_set hcl hr) h2 h'.2⟩) h
  | (i, 1) :: r, listed, a, w, hcl, hok, h => by
    simp only [okF, Bool.and_eq_true, List.all_eq_true, List.mem_range, Bool.or_eq_true, beq_iff_eq] at hok
    obtain ⟨⟨⟨h1, h2⟩, h3⟩, h4⟩ := hok
    obtain ⟨oi, x, g1, g2, g3, g4, g5⟩ := h
    have hr : i ∈ Region.ready md ops listed := by simpa using h1
    refine anyF_early (k := 1) (N := N) (S := T) (.inr ⟨rfl, rfl, fun j hj hlt => ?_⟩) g1 (Region.noSelect_spec hsel) g4 r.length listed a w hcl (Region.free_spec g1 h2) hr g2 g3 (anyF_of hsel r _ _ w (closed_set hcl hr) h4 g5)
    rcases h3 j hlt with (h | h) | h
    · exact absurd h hj
    · exact .inl h
    · exact .inr h
  | (i, m + 2) :: r, listed, a, w, hcl, hok, h => by
    simp only [okF, Bool.and_eq_true] at hok
    obtain ⟨⟨h1, h2⟩, h4⟩ := hok
    obtain ⟨oi, x, g1, g2, g4, g5⟩ := h
    have hr : i ∈ Region.ready md ops listed := by simpa using h1
    exact anyF_early (k := 2) (N := N) (S := fun _ => True) (.inl ⟨rfl, rfl⟩) g1 (Region.noSelect_spec hsel) g4 r.length listed a w hcl (Region.free_spec g1 h2) hr g2 trivial (anyF_of hsel r _ _ w (closed_set hcl hr) h4 g5)
end

section
variable {c : Cx} {s : S} {Q : Exit → S → Prop} {ops : Array Oper} {L : List Oper} {need : Nat → Bool} {l : List (Nat × Nat)} {i : Nat} {o : Oper}
/-- First reads, then what makes new memory, then anything. -/
def AF1 (c : Cx) (ops : Array Oper) (Q : Exit → S → Prop) (need : Nat → Bool) (l : List (Nat × Nat)) (s : S) : Prop := ∀ g a w, Sim c g s a w → ASeqF c.P ops (QQ c Q) (Below w.heap.size w) need l a w
def AF2 (c : Cx) (ops : Array Oper) (Q : Exit → S → Prop) (need : Nat → Bool) (l : List (Nat × Nat)) (s : S) : Prop := ∀ W g a w, Sim c g s a w → Below W.heap.size W w → ASeqF c.P ops (QQ c Q) (Below W.heap.size W) need l a w
def AF3 (c : Cx) (ops : Array Oper) (Q : Exit → S → Prop) (need : Nat → Bool) (l : List (Nat × Nat)) (s : S) : Prop := ∀ (T : World → Prop) g a w, Sim c g s a w → ASeqF c.P ops (QQ c Q) T need l a w
theorem AW.drawF {id : Nat} {l : List Oper} (order : List (Nat × Nat)) (need : Nat → Bool) (N : Nat) (hm : c.P.follows .mixedOrders = true) (hsel : Region.noSelect l.toArray = true) (hlen : order.length = l.length)
    (hok : okF .any l.toArray need N order (Array.replicate l.length false) = true) (h : AF1 c l.toArray Q need order s) : AW c (.region id l.toArray true) Q s := by
  intro g a w hs
  refine wp_region_any hm ?_
  have hs' : Sim c g s a w.drew := hs.move (Below.drew (Below.refl _ _))
  have := any_of_anyF _ _ _ _ (anyF_of (P := c.P) (Q := QQ c Q) (T := Below w.drew.heap.size w.drew) (need := need) (md := .any) hsel order (Array.replicate l.length false) a w.drew (by
    intro j oj _ hl
    rw [Array.getD_eq_getD_getElem?, Array.getElem?_replicate] at hl
    split at hl <;> simp at hl) hok (h g a _ hs'))
  rw [hlen] at this
  simpa using this
theorem AF1.rd {v : V} (hi : L[i]? = some o) (hg : o.guard = none) (hd : dok s o = true) (hp : noP Q) (h : RD c o s v) (hN : AF1 c L.toArray Q need l (s.put o.dst v)) : AF1 c L.toArray Q need ((i, 1) :: l) s := fun g a w hs => by
  obtain ⟨x, h1, h2⟩ := h g a w hs
  exact ⟨o, x, by simpa using hi, .inl ⟨by simp [Region.wanted, hg], h2⟩, Below.refl _ _, QQ_noP hp _ _, hN g _ w (hs.put o.dst (dok_spec hd) h1)⟩
theorem AF1.rdy {v : V} {j : Nat} {b : Bool} (hi : L[i]? = some o) (hg : o.guard = some (j, b)) (hy : yld L.toArray s j = some b) (hd : dok s o = true) (hp : noP Q) (h : RD c o s v) (hN : AF1 c L.toArray Q need l (s.put o.dst v)) : AF1 c L.toArray Q need ((i, 1) :: l) s := fun g a w hs => by
  obtain ⟨x, h1, h2⟩ := h g a w hs
  exact ⟨o, x, by simpa using hi, .inl ⟨by simp [Region.wanted, hg, yld_spec hy hs], h2⟩, Below.refl _ _, QQ_noP hp _ _, hN g _ w (hs.put o.dst (dok_spec hd) h1)⟩
theorem AF1.rp {v : V} (hi : L[i]? = some o) (hg : o.guard = none) (hd : dok s o = true) (hp : noP Q) (h : RP c o s v) (hN : AF1 c L.toArray Q need l (s.put o.dst v)) : AF1 c L.toArray Q need ((i, 2) :: l) s := fun g a w hs => by
  obtain ⟨x, h1, h2⟩ := h g a w hs
  exact ⟨o, x, by simpa using hi, .inl ⟨by simp [Region.wanted, hg], fun w' _ => h2 w'⟩, QQ_noP hp _ _, hN g _ w (hs.put o.dst (dok_spec hd) h1)⟩
theorem AF1.go (h : AF2 c L.toArray Q need l s) : AF1 c L.toArray Q need l s := fun g a w hs => h w g a w hs (Below.refl _ _)
theorem AF1.nil (h : Q .normal s) : AF1 c L.toArray Q need [] s := fun g a w hs => ⟨g, s, h, hs⟩
theorem AF2.rp {v : V} (hi : L[i]? = some o) (hg : o.guard = none) (hd : dok s o = true) (hp : noP Q) (h : RP c o s v) (hN : AF2 c L.toArray Q need l (s.put o.dst v)) : AF2 c L.toArray Q need ((i, 2) :: l) s := fun W g a w hs hb => by
  obtain ⟨x, h1, h2⟩ := h g a w hs
  exact ⟨o, x, by simpa using hi, .inl ⟨by simp [Region.wanted, hg], fun w' _ => h2 w'⟩, QQ_noP hp _ _, hN W g _ w (hs.put o.dst (dok_spec hd) h1) hb⟩
theorem AF2.stepM (hi : L[i]? = some o) (hg : o.guard = none) (h : StepM c o s (AF2 c L.toArray Q need l)) : AF2 c L.toArray Q need ((i, 0) :: l) s := fun W g a w hs hb =>
  wpOp_of (by simpa using hi) hg (h g a w hs _ _ fun g' s' a' w' h1 h2 h3 => ⟨fun _ _ => hb.trans (h3.mono hb.size), h1 W g' a' w' h2 (hb.trans (h3.mono hb.size))⟩)
theorem AF2.sm {X : S} (hi : L[i]? = some o) (hg : o.guard = none) (h : StepM c o s (fun s' => s' = X)) (hN : AF2 c L.toArray Q need l X) : AF2 c L.toArray Q need ((i, 0) :: l) s :=
  AF2.stepM hi hg fun g a w hs K Q' hK => h g a w hs K Q' fun g' s' a' w' e h1 h2 => hK g' s' a' w' (by subst e; exact hN) h1 h2
theorem AF2.call {post : V → Prop} (hi : L[i]? = some o) (hg : o.guard = none) (h : StepM c o s (fun s' => ∃ v, post v ∧ v.pure ∧ s' = s.put o.dst v)) (hN : ∀ v, post v → v.pure → AF2 c L.toArray Q need l (s.put o.dst v)) : AF2 c L.toArray Q need ((i, 0) :: l) s :=
  AF2.stepM hi hg fun g a w hs K Q' hK => h g a w hs K Q' fun g' s' a' w' ⟨v, h1, h2, e⟩ h3 h4 => hK g' s' a' w' (by subst e; exact hN v h1 h2) h3 h4
theorem AF2.rd1 {v : V} (hi : L[i]? = some o) (hg : o.guard = none) (hd : dok s o = true) (h : RD c o s v) (hN : AF2 c L.toArray Q need l (s.put o.dst v)) : AF2 c L.toArray Q need ((i, 0) :: l) s :=
  AF2.stepM hi hg (h.stepM hd hN)
theorem AF2.rp1 {v : V} (hi : L[i]? = some o) (hg : o.guard = none) (hd : dok s o = true) (h : RP c o s v) (hN : AF2 c L.toArray Q need l (s.put o.dst v)) : AF2 c L.toArray Q need ((i, 0) :: l) s := AF2.rd1 hi hg hd h.rd hN
theorem AF2.go (h : AF3 c L.toArray Q need l s) : AF2 c L.toArray Q need l s := fun W g a w hs _ => h _ g a w hs
theorem AF2.nil (h : Q .normal s) : AF2 c L.toArray Q need [] s := fun W g a w hs _ => ⟨g, s, h, hs⟩
theorem AF3.rp {v : V} (hi : L[i]? = some o) (hg : o.guard = none) (hd : dok s o = true) (hp : noP Q) (h : RP c o s v) (hN : AF3 c L.toArray Q need l (s.put o.dst v)) : AF3 c L.toArray Q need ((i, 2) :: l) s := fun T g a w hs => by
  obtain ⟨x, h1, h2⟩ := h g a w hs
  exact ⟨o, x, by simpa using hi, .inl ⟨by simp [Region.wanted, hg], fun w' _ => h2 w'⟩, QQ_noP hp _ _, hN T g _ w (hs.put o.dst (dok_spec hd) h1)⟩
theorem AF3.step (hi : L[i]? = some o) (hg : o.guard = none) (hn : need i = false) (h : Step c o s (AF3 c L.toArray Q need l)) : AF3 c L.toArray Q need ((i, 0) :: l) s := fun T g a w hs =>
  wpOp_of (by simpa using hi) hg (h g a w hs _ _ fun g' s' a' w' h1 h2 => ⟨fun h0 => (by rw [hn] at h0; cases h0), h1 T g' a' w' h2⟩)
theorem AF3.st {X : S} (hi : L[i]? = some o) (hg : o.guard = none) (hn : need i = false) (h : Step c o s (fun s' => s' = X)) (hN : AF3 c L.toArray Q need l X) : AF3 c L.toArray Q need ((i, 0) :: l) s :=
  AF3.step hi hg hn fun g a w hs K Q' hK => h g a w hs K Q' fun g' s' a' w' e h1 => hK g' s' a' w' (by subst e; exact hN) h1
theorem AF3.rd1 {v : V} (hi : L[i]? = some o) (hg : o.guard = none) (hn : need i = false) (hd : dok s o = true) (h : RD c o s v) (hN : AF3 c L.toArray Q need l (s.put o.dst v)) : AF3 c L.toArray Q need ((i, 0) :: l) s :=
  AF3.step hi hg hn (h.stepM hd hN).step
theorem AF3.rp1 {v : V} (hi : L[i]? = some o) (hg : o.guard = none) (hn : need i = false) (hd : dok s o = true) (h : RP c o s v) (hN : AF3 c L.toArray Q need l (s.put o.dst v)) : AF3 c L.toArray Q need ((i, 0) :: l) s := AF3.rd1 hi hg hn hd h.rd hN
theorem AF3.sm {X : S} (hi : L[i]? = some o) (hg : o.guard = none) (hn : need i = false) (h : StepM c o s (fun s' => s' = X)) (hN : AF3 c L.toArray Q need l X) : AF3 c L.toArray Q need ((i, 0) :: l) s := AF3.st hi hg hn h.step hN
theorem AF3.nil (h : Q .normal s) : AF3 c L.toArray Q need [] s := fun T g a w hs => ⟨g, s, h, hs⟩
end
end Go.Proofs.YtkikceoccmoanaaGreatDoor
namespace Go.Proofs.YtkikceoccmoanaaGreatDoor
open Go.RowKit
set_option linter.unusedSimpArgs false
set_option linter.unusedVariables false
section
variable {c : Cx} {s : S} {o : Oper} {t t' : TypeId} {x y : Operand} {m n : Int}
theorem rp_addZ (z : Int) (ho : o.op = .binOp .add t x y t') (hx : s.ev x = some (.i m)) (hy : s.ev y = some (.i n)) (hz : m + n = z) (h : -9223372036854775808 ≤ z ∧ z ≤ 9223372036854775807) : RP c o s (.i z) := by subst hz; exact rp_add ho hx hy h
end
section
variable {c : Cx} {s : S} {o : Oper} {Q : Exit → S → Prop} {L : List Oper} {need : Nat → Bool} {i : Nat} {r : List (Nat × Nat)}
theorem AF3.pc {P : Program} {f : FuncId} {args : List V} {H : List (Nat × Row)} {K : List V} {post : V → List (Nat × Row) → List V → Prop} {fx : Operand} {xs : Array Operand} {tys : Array TypeId} (hi : L[i]? = some o) (hn : need i = false) (l : List Nat) {ts : List V} (h : PC P f args H K post) (hg : o.guard = none) (hP : c.P = P) (ho : o.op = .call { callee := .value fx, args := xs, argTypes := tys }) (hfx : s.ev fx = some (.fn f [])) (hargs : xs.toList.map s.ev = args.map some)
    (hts : l.map (fun i => fnd s.T i) = ts.map some) (hH : s.H = H) (hK : ts ++ s.K = K) (hd : dok s o = true) (hN : ∀ v H' K', post v H' K' → AF3 c L.toArray Q need r (back s l o.dst v H' K')) : AF3 c L.toArray Q need ((i, 0) :: r) s :=
  AF3.step hi hg hn fun g a w hs K' Q' hK' => h c s o fx xs tys l ts hP ho hfx hargs hts hH hK hd g a w hs K' Q' fun g' s' a' w' ⟨v, H', K2, h1, h2⟩ h3 => hK' g' s' a' w' (by subst h2; exact hN _ _ _ h1) h3
end
end Go.Proofs.YtkikceoccmoanaaGreatDoor
