/- Stores, and slices that grow, as rules of the walk without worlds. -/
import Derived.Test.YthlcginebeapdaaAmE
namespace Go.Proofs.Ythlcginebeapdaa
open Go.RowKit
set_option linter.unusedSimpArgs false
set_option linter.unusedVariables false

section
variable {c : Cx} {s : S} {o : Oper} {g : Nat → Nat × Nat} {a : Act} {w : World} {q : Nat → Prop}

/-- Another world, in which object r's block alone has turned. -/
theorem Sim.setRow (h : Sim c g s a w) {w' : World} {r : Nat} {row row' : Row} {arr' : Array Value} (hr : fnd s.H r = some row) (hn : row.nil = false) (hty : row'.ty = row.ty) (hn' : row'.nil = false) (hsr : row'.sz = row.sz)
    (hb : w'.heap[(g r).1]? = some (.cells arr' row.ty (0, 0))) (hob : ∀ b, b ≠ (g r).1 → w'.heap[b]? = w.heap[b]?) (hsize : w'.heap.size = w.heap.size) (hos : w'.os = w.os) (htp : w'.tape = w.tape) (hou : w'.output = w.output)
    (hsz : ∀ arr ty, w.heap[(g r).1]? = some (.cells arr ty (0, 0)) → arr'.size = arr.size)
    (hc : ∀ (j : Nat) (v : V), row'.cells[j]? = some v → ∃ x, arr'[j]? = some x ∧ VRep w (qt c s.H g) g v x) : Sim c g { s with H := (r, row') :: s.H } a w' := by
  have hq : ∀ b, qt c s.H g b → b < w.heap.size → qt c ((r, row') :: s.H) g b := by
    intro b hqb _
    refine ⟨hqb.1, fun k row'' hk hkn => ?_⟩
    by_cases e : k = r
    · subst e; exact hqb.2 k row hr hn
    · simp only [fnd, beq_iff_eq, Ne.symm e, if_false] at hk
      exact hqb.2 k row'' hk hkn
  have hw : Cells w w' (qt c s.H g) := ⟨by omega, fun b o u hqb hlt hcell => (World.cell?_of_block (w := w) (a := ⟨b, o, none⟩) (hob b (fun e => hqb.2 r row hr hn e.symm))).trans hcell, fun b es hne hm => (hob b fun e => by
      obtain ⟨arr, h1, _⟩ := h.obj r row hr hn
      rw [e, h1] at hm; cases hm; exact hne _ _ _ rfl).trans hm⟩
  have hm : ∀ {v x}, VRep w (qt c s.H g) g v x → VRep w' (qt c ((r, row') :: s.H) g) g v x := fun hv => hv.mono hw hq (fun r _ => rfl)
  have hfnd : ∀ k row'', fnd ((r, row') :: s.H) k = some row'' → k = r ∧ row'' = row' ∨ k ≠ r ∧ fnd s.H k = some row'' := by
    intro k row'' hk
    by_cases e : k = r
    · subst e; simp [fnd] at hk; exact .inl ⟨rfl, hk.symm⟩
    · simp only [fnd, beq_iff_eq, Ne.symm e, if_false] at hk; exact .inr ⟨e, hk⟩
  have hbel : Below c.w0.heap.size c.w0 w' := by
    refine h.below.trans ⟨hos, htp, hou, by omega, fun k hk => hob k ?_⟩
    have := h.base r row hr hn
    omega
  refine ⟨h.size, h.defers, ?_, ?_, ?_, ?_, ?_, ?_, h.low, hbel⟩
  · intro i v hv
    obtain ⟨x, h1, h2⟩ := h.tmp i v hv
    exact ⟨x, h1, hm h2⟩
  · intro k row'' hk hkn
    rcases hfnd k row'' hk with ⟨_, rfl⟩ | ⟨_, h1⟩
    · rw [hn'] at hkn; cases hkn
    · exact h.nul k row'' h1 hkn
  · intro k row'' hk hkn
    rcases hfnd k row'' hk with ⟨rfl, rfl⟩ | ⟨e, h1⟩
    · obtain ⟨arr0, h7, h8, _⟩ := h.obj _ row hr hn
      refine ⟨arr', by rw [hty]; exact hb, by rw [hsr, hsz _ _ h7]; exact h8, fun j v hv => ?_⟩
      obtain ⟨x, h2, h3⟩ := hc j v hv
      exact ⟨x, h2, hm h3⟩
    · obtain ⟨arr, h2, hzz, h3⟩ := h.obj k row'' h1 hkn
      refine ⟨arr, (hob _ fun e' => e (h.inj k r _ _ h1 hkn hr hn e')).trans h2, hzz, fun j v hv => ?_⟩
      obtain ⟨x, h4, h5⟩ := h3 j v hv
      exact ⟨x, h4, hm h5⟩
  · intro j v x h1 h2
    exact hm (h.keep j v x h1 h2)
  · intro k k' row1 row2 h1 n1 h2 n2 h3
    rcases hfnd k row1 h1 with ⟨rfl, rfl⟩ | ⟨e, h1'⟩ <;> rcases hfnd k' row2 h2 with ⟨rfl, rfl⟩ | ⟨e', h2'⟩
    · rfl
    · exact h.inj _ _ _ _ hr hn h2' n2 h3
    · exact h.inj _ _ _ _ h1' n1 hr hn h3
    · exact h.inj _ _ _ _ h1' n1 h2' n2 h3
  · intro k row'' hk hkn
    rcases hfnd k row'' hk with ⟨rfl, rfl⟩ | ⟨e, h1⟩
    · exact h.base _ row hr hn
    · exact h.base k _ h1 hkn

theorem st_store_any {t : TypeId} {sz bt : Nat} {z : Value} {x y : Operand} {r k : Nat} {row : Row} {v : V} {l : List V} (hi : Inf c.P t sz bt z) (ho : o.op = .store t x y) (hd : o.dst = none) (hx : s.ev x = some (.ref r k)) (hy : s.ev y = some v) (hr : fnd s.H r = some row) (hn : row.nil = false)
    (hok : v.ok = true) (hl : v.cs.length = sz) (hfit : k + sz ≤ row.cells.length) (hset : setL row.cells k v.cs = l) : Step c o s (fun s' => s' = { s with H := (r, { row with cells := l }) :: s.H }) := by
  intro g a w hs K Q hK
  obtain ⟨cs, c1, c2, c3, c4⟩ := (hs.ev hy).cells hok
  obtain ⟨arr, h1, _, h2⟩ := hs.obj r row hr hn
  have hlen : row.cells.length ≤ arr.size := by
    rcases Nat.eq_zero_or_pos row.cells.length with h0 | h0
    · omega
    · obtain ⟨y, hy', _⟩ := h2 (row.cells.length - 1) row.cells[row.cells.length - 1] (List.getElem?_eq_getElem (by omega))
      have := (Array.getElem?_eq_some_iff.1 hy').1
      omega
  have hrun := run_storeCells_at c.P (g r).1 k row.ty cs 0 arr w h1 (by omega) c4
  have hx' : a.eval x = .pointer (some ⟨(g r).1, k, none⟩) := by
    have h := hs.ev hx
    generalize a.eval x = u at h
    cases h; rfl
  have hsz : (a.eval y).cells.size = sz := by rw [c1]; simp; omega
  unfold Oper.wp
  have hexec : (execOp a.eval o).run c.P w = .ok .skip (w.setRow (g r).1 (arr.toList.take (k + 0) ++ cs ++ arr.toList.drop (k + 0 + cs.length)).toArray) := by
    simp only [execOp, ho, hx', Instr.storeAt, Instr.sureAddr, storeVar, Sem.run_bind, Sem.run_pure, Result.andThen_ok, run_sizeOf hi, hsz]
    simp [c1, hrun]
  rw [hexec]
  simp only [Oper.upon, hd, Act.put]
  simp only [Nat.add_zero]
  refine hK g _ a _ rfl (Sim.setRow hs (row' := { row with cells := l }) hr hn rfl hn rfl (setRow_heap _ _ _ _ _ _ h1) (fun b hb => setRow_other _ _ _ _ hb) (by simp) rfl rfl rfl ?_ ?_)
  · intro arr0 ty h0
    rw [h1] at h0
    simp only [Option.some.injEq, Obj.cells.injEq, and_true] at h0
    obtain ⟨rfl, _⟩ := h0
    simp; omega
  · intro j u hu
    subst hset
    simp only at hu
    rw [setL_get (by omega)] at hu
    have hget : ((arr.toList.take k ++ cs ++ arr.toList.drop (k + cs.length)).toArray)[j]? = if k ≤ j ∧ j < k + cs.length then cs[j - k]? else arr[j]? := by
      simp only [List.getElem?_toArray]
      by_cases e1 : j < k
      · rw [if_neg (by omega), List.append_assoc, List.getElem?_append_left (by simp; omega), List.getElem?_take_of_lt e1]; simp
      · by_cases e2 : j < k + cs.length
        · rw [if_pos (by omega), List.append_assoc, List.getElem?_append_right (by simp; omega), List.getElem?_append_left (by simp; omega)]
          congr 1
          simp; omega
        · rw [if_neg (by omega), List.append_assoc, List.getElem?_append_right (by simp; omega), List.getElem?_append_right (by simp; omega), List.getElem?_drop]
          simp only [Array.getElem?_toList]
          congr 1
          simp; omega
    rw [hget]
    by_cases hj : k ≤ j ∧ j < k + v.cs.length
    · rw [if_pos hj] at hu
      rw [if_pos (by omega)]
      have hjl : j - k < cs.length := by omega
      exact ⟨cs[j - k], List.getElem?_eq_getElem hjl, c3 _ u _ hu (List.getElem?_eq_getElem hjl)⟩
    · rw [if_neg hj] at hu
      rw [if_neg (by omega)]
      exact h2 j u hu
/-- A store of one cell. -/
theorem st_store {t : TypeId} {bt : Nat} {z : Value} {x y : Operand} {r k : Nat} {row : Row} {v : V} {l : List V} (hi : Inf c.P t 1 bt z) (ho : o.op = .store t x y) (hd : o.dst = none) (hx : s.ev x = some (.ref r k)) (hy : s.ev y = some v) (hr : fnd s.H r = some row) (hn : row.nil = false)
    (hok : v.one = true) (hfit : k < row.cells.length) (hset : row.cells.set k v = l) : Step c o s (fun s' => s' = { s with H := (r, { row with cells := l }) :: s.H }) := by
  have hcs : v.cs = [v] := by cases v <;> first | rfl | (simp [V.one] at hok)
  refine st_store_any hi ho hd hx hy hr hn ?_ (by rw [hcs]; rfl) (by omega) ?_
  · cases v <;> first | exact hok | (simp [V.one] at hok)
  · rw [← hset, hcs]
    apply List.ext_getElem?
    intro j
    rw [setL_get (by simp; omega), List.getElem?_set]
    by_cases e : k = j
    · subst e; simp [hfit]
    · rw [if_neg (by simp; omega), if_neg e]

/-- What is left of a state when object r is no more. -/
def junkIf (r : Nat) (v : V) : V := if v.has r then .junk else v
def S.forget (s : S) (r : Nat) : S := ⟨s.n, s.T.map (fun x => (x.1, junkIf r x.2)), (s.H.filter (fun x => x.1 != r)).map (fun x => (x.1, { x.2 with cells := if V.hasL r x.2.cells then x.2.cells.map (junkIf r) else x.2.cells })), s.K.map (junkIf r)⟩
theorem fnd_map {α β : Type} (f : α → β) : ∀ (l : List (Nat × α)) (i : Nat), fnd (l.map (fun x => (x.1, f x.2))) i = (fnd l i).map f
  | [], i => rfl
  | (k, v) :: r, i => by
    simp only [List.map_cons, fnd]
    split
    · rfl
    · exact fnd_map f r i
theorem fnd_filter {α : Type} (r : Nat) : ∀ (l : List (Nat × α)) (i : Nat), i ≠ r → fnd (l.filter (fun x => x.1 != r)) i = fnd l i
  | [], i, _ => rfl
  | (k, v) :: l, i, h => by
    by_cases e : k = r
    · subst e
      have h0 : ((k, v).1 != k) = false := by simp
      rw [List.filter_cons, if_neg (by simp), fnd_filter k l i h]
      simp [fnd, Ne.symm h]
    · rw [List.filter_cons, if_pos (by simpa using e)]
      simp only [fnd, fnd_filter r l i h]
theorem fnd_filter_self {α : Type} (r : Nat) : ∀ (l : List (Nat × α)), fnd (l.filter (fun x => x.1 != r)) r = none
  | [] => rfl
  | (k, v) :: l => by
    by_cases e : k = r
    · subst e
      rw [List.filter_cons, if_neg (by simp)]
      exact fnd_filter_self k l
    · rw [List.filter_cons, if_pos (by simpa using e)]
      simp only [fnd, beq_iff_eq, e, if_false]
      exact fnd_filter_self r l
theorem junkIf_clean {r : Nat} (v : V) : (junkIf r v).has r = false := by
  unfold junkIf
  split
  · rfl
  · rename_i h; simpa using h
theorem junkIf_wk {r : Nat} (v : V) : Wk (junkIf r v) v := by
  unfold junkIf
  split
  · exact .junk _
  · exact .refl _

/-- A slice has grown: into its own block or into a new one. -/
theorem Sim.grown (h : Sim c g s a w) {w' : World} {r : Nat} {row row' : Row} {G cap : Nat} {arr' : Array Value} (hr : fnd s.H r = some row) (hG : row.nil = false ∧ G = (g r).1 ∨ G = w.heap.size) (hn' : row'.nil = false)
    (hb : w'.heap[G]? = some (.cells arr' row'.ty (0, 0))) (hob : ∀ b, b < w.heap.size → (row.nil = false → b ≠ (g r).1) → w'.heap[b]? = w.heap[b]?) (hsize : w.heap.size ≤ w'.heap.size) (hos : w'.os = w.os) (htp : w'.tape = w.tape) (hou : w'.output = w.output)
    (hrow' : V.hasL r row'.cells = false) (hcap : row'.sz ≠ 0 → arr'.size = cap * row'.sz) (hc : ∀ (j : Nat) (v : V), row'.cells[j]? = some v → ∃ x, arr'[j]? = some x ∧ VRep w (qt c s.H g) g v x) :
    Sim c (fun k => if k = r then (G, cap) else g k) ⟨s.n, (s.forget r).T, (r, row') :: (s.forget r).H, (s.forget r).K⟩ a w' := by
  have hlt : ∀ {b o}, w.heap[b]? = some o → b < w.heap.size := fun h => (Array.getElem?_eq_some_iff.1 h).1
  have hGb : c.w0.heap.size ≤ G := by
    rcases hG with ⟨h1, rfl⟩ | rfl
    · exact h.base r row hr h1
    · exact h.below.size
  have hfH : ∀ k row'', fnd ((r, row') :: (s.forget r).H) k = some row'' → k = r ∧ row'' = row' ∨ k ≠ r ∧ ∃ row0, fnd s.H k = some row0 ∧ row''.ty = row0.ty ∧ row''.nil = row0.nil ∧ row''.sz = row0.sz ∧ ∀ (j : Nat) (v : V), row''.cells[j]? = some v → v.has r = false ∧ ∃ u, row0.cells[j]? = some u ∧ Wk v u := by
    intro k row'' hk
    by_cases e : k = r
    · subst e; simp [fnd] at hk; exact .inl ⟨rfl, hk.symm⟩
    · simp only [fnd, beq_iff_eq, Ne.symm e, if_false] at hk
      refine .inr ⟨e, ?_⟩
      simp only [S.forget] at hk
      rw [fnd_map (fun (x : Row) => ({ x with cells := if V.hasL r x.cells then x.cells.map (junkIf r) else x.cells } : Row)), fnd_filter r _ _ e] at hk
      cases h0 : fnd s.H k with
      | none => rw [h0] at hk; cases hk
      | some row0 =>
        rw [h0] at hk
        simp only [Option.map_some, Option.some.injEq] at hk
        subst hk
        refine ⟨row0, rfl, rfl, rfl, rfl, fun j v hv => ?_⟩
        simp only at hv
        split at hv
        · rw [List.getElem?_map] at hv
          cases h1 : row0.cells[j]? with
          | none => rw [h1] at hv; cases hv
          | some u =>
            rw [h1] at hv
            simp only [Option.map_some, Option.some.injEq] at hv
            subst hv
            exact ⟨junkIf_clean u, u, rfl, junkIf_wk u⟩
        · rename_i hh
          exact ⟨V.hasL_false.1 (by simpa using hh) v (List.mem_of_getElem? hv), v, hv, .refl _⟩
  have hfT : ∀ i v, fnd (s.forget r).T i = some v → ∃ u, fnd s.T i = some u ∧ v = junkIf r u := by
    intro i v hv
    simp only [S.forget] at hv
    rw [fnd_map] at hv
    cases h0 : fnd s.T i with
    | none => rw [h0] at hv; cases hv
    | some u => rw [h0] at hv; simp only [Option.map_some, Option.some.injEq] at hv; exact ⟨u, rfl, hv.symm⟩
  have hq : ∀ b, qt c s.H g b → b < w.heap.size → qt c ((r, row') :: (s.forget r).H) (fun k => if k = r then (G, cap) else g k) b := by
    intro b hqb hbl
    refine ⟨hqb.1, fun k row'' hk hkn => ?_⟩
    rcases hfH k row'' hk with ⟨rfl, rfl⟩ | ⟨e, row0, h1, _, h3, _, _⟩
    · simp only [if_true]
      rcases hG with ⟨h1, rfl⟩ | rfl
      · exact hqb.2 k row hr h1
      · omega
    · simp only [e, if_false]
      exact hqb.2 k row0 h1 (h3 ▸ hkn)
  have hw : Cells w w' (qt c s.H g) := ⟨hsize, fun b o u hqb hbl hcell => (World.cell?_of_block (w := w) (a := ⟨b, o, none⟩) (hob b hbl (fun hn e => hqb.2 r row hr hn e.symm))).trans hcell, fun b es hne hm => (hob b (Array.getElem?_eq_some_iff.1 hm).1 fun hn e => by
      obtain ⟨arr, h1, _⟩ := h.obj r row hr hn
      rw [e, h1] at hm; cases hm; exact hne _ _ _ rfl).trans hm⟩
  have hm : ∀ {v x}, v.has r = false → VRep w (qt c s.H g) g v x → VRep w' (qt c ((r, row') :: (s.forget r).H) (fun k => if k = r then (G, cap) else g k)) (fun k => if k = r then (G, cap) else g k) v x := by
    intro v x hv hx
    refine hx.mono hw hq fun k hk => ?_
    have e : k ≠ r := by rintro rfl; rw [hv] at hk; cases hk
    simp [e]
  have hbel : Below c.w0.heap.size c.w0 w' := by
    refine h.below.trans ⟨hos, htp, hou, by have := h.below.size; omega, fun k hk => hob k (by have := h.below.size; omega) fun hn => ?_⟩
    have := h.base r row hr hn
    omega
  refine ⟨h.size, h.defers, ?_, ?_, ?_, ?_, ?_, ?_, h.low, hbel⟩
  · intro i v hv
    obtain ⟨u, h1, rfl⟩ := hfT i v hv
    obtain ⟨x, h2, h3⟩ := h.tmp i u h1
    exact ⟨x, h2, hm (junkIf_clean u) ((junkIf_wk u).rep h3)⟩
  · intro k row'' hk hkn
    rcases hfH k row'' hk with ⟨_, rfl⟩ | ⟨_, row0, h1, _, h3, _, h4⟩
    · rw [hn'] at hkn; cases hkn
    · have h0 := h.nul k row0 h1 (h3 ▸ hkn)
      cases hcc : row''.cells with
      | nil => rfl
      | cons v l =>
        obtain ⟨_, u, h5, _⟩ := h4 0 v (by simp [hcc])
        simp [h0] at h5
  · intro k row'' hk hkn
    rcases hfH k row'' hk with ⟨rfl, rfl⟩ | ⟨e, row0, h1, h2, h3, hz0, h4⟩
    · refine ⟨arr', by simpa using hb, by simpa using hcap, fun j v hv => ?_⟩
      obtain ⟨x, h2, h3⟩ := hc j v hv
      exact ⟨x, h2, hm (V.hasL_false.1 hrow' v (List.mem_of_getElem? hv)) h3⟩
    · obtain ⟨arr, h5, h55, h6⟩ := h.obj k row0 h1 (h3 ▸ hkn)
      refine ⟨arr, ?_, by rw [hz0]; simpa only [e, if_false] using h55, fun j v hv => ?_⟩
      · simp only [e, if_false]
        rw [h2]
        exact (hob _ (hlt h5) (fun hn e' => e (h.inj k r _ _ h1 (h3 ▸ hkn) hr hn e'))).trans h5
      · obtain ⟨hcl, u, h7, h8⟩ := h4 j v hv
        obtain ⟨x, h9, h10⟩ := h6 j u h7
        exact ⟨x, h9, hm hcl (h8.rep h10)⟩
  · intro j v x h1 h2
    simp only [S.forget, List.getElem?_map] at h1
    cases h0 : s.K[j]? with
    | none => rw [h0] at h1; cases h1
    | some u =>
      rw [h0] at h1
      simp only [Option.map_some, Option.some.injEq] at h1
      subst h1
      exact hm (junkIf_clean u) ((junkIf_wk u).rep (h.keep j u x h0 h2))
  · intro k k' row1 row2 h1 n1 h2 n2 h3
    rcases hfH k row1 h1 with ⟨rfl, rfl⟩ | ⟨e, row0, h1', _, m1, _, _⟩ <;> rcases hfH k' row2 h2 with ⟨rfl, rfl⟩ | ⟨e', row0', h2', _, m2, _, _⟩
    · rfl
    · simp only [e', if_true, if_false] at h3
      obtain ⟨arr, h5, _⟩ := h.obj k' row0' h2' (m2 ▸ n2)
      have := hlt h5
      rcases hG with ⟨hn, rfl⟩ | rfl
      · exact absurd (h.inj _ _ _ _ hr hn h2' (m2 ▸ n2) h3).symm e'
      · omega
    · simp only [e, if_true, if_false] at h3
      obtain ⟨arr, h5, _⟩ := h.obj k row0 h1' (m1 ▸ n1)
      have := hlt h5
      rcases hG with ⟨hn, rfl⟩ | rfl
      · exact absurd (h.inj _ _ _ _ hr hn h1' (m1 ▸ n1) h3.symm).symm e
      · omega
    · simp only [e, e', if_false] at h3
      exact h.inj _ _ _ _ h1' (m1 ▸ n1) h2' (m2 ▸ n2) h3
  · intro k row'' hk hkn
    rcases hfH k row'' hk with ⟨rfl, rfl⟩ | ⟨e, row0, h1, _, m1, _, _⟩
    · simpa using hGb
    · simp only [e, if_false]
      exact h.base k _ h1 (m1 ▸ hkn)

/-- One operation that changes no block but that of object r. -/
def StepX (c : Cx) (o : Oper) (s : S) (r : Nat) (N : S → Prop) : Prop := ∀ g a w, Sim c g s a w → ∀ (K : Act → World → Prop) (Q : Exit → Act → World → Prop),
  (∀ g' s' a' w', N s' → Sim c g' s' a' w' → (w.heap.size ≤ w'.heap.size ∧ ∀ k, k < w.heap.size → (∀ row, fnd s.H r = some row → row.nil = false → k ≠ (g r).1) → w'.heap[k]? = w.heap[k]?) → K a' w') → o.wp c.P a w K Q
theorem StepX.step {r : Nat} {N : S → Prop} (h : StepX c o s r N) : Step c o s N := fun g a w hs K Q hK => h g a w hs K Q fun g' s' a' w' h1 h2 _ => hK g' s' a' w' h1 h2
/-- append, of at least one element, onto a slice of the call's own (nil or not). -/
theorem st_append_anyX {t e : TypeId} {x y : Operand} {r sz bt n m : Nat} {z : Value} {f : Bool} {row : Row} {l1 news : List V} (hu : c.P.underlying t = some (.slice e)) (hi : Inf c.P e sz bt z) (hzs : z.cells.size = sz) (hsz : 0 < sz)
    (ho : o.op = .call { callee := .builtin .append, args := #[x, y], argTypes := #[t, t] }) (hx : s.ev x = some (.own r sz n f)) (hr : fnd s.H r = some row) (hf : row.nil = f) (hrz : row.sz = sz) (hty : row.ty = e)
    (hl : row.cells.take (n * sz) = l1) (hl1 : l1.length = n * sz) (hc1 : V.hasL r l1 = false) (hnl : news.length = m * sz) (hc2 : V.hasL r news = false) (hm : 0 < m) (h63 : n + m ≤ 140737488355328) (hbt : (n + m) * bt ≤ 140737488355328) (hd : dok s o = true)
    (hnews : ∀ g a w, Sim c g s a w → ∃ (ad : Addr) (cp : Nat) (cs : List Value), a.eval y = .slice (some ad) m cp ∧ cs.length = m * sz ∧ (∀ (j : Nat) (u : Value), cs[j]? = some u → w.cell? (ad.add j) = some u) ∧ (∀ u ∈ cs, u.oneCell' = true) ∧
      ∀ (j : Nat) (u : V) (x : Value), news[j]? = some u → cs[j]? = some x → VRep w (qt c s.H g) g u x) :
    StepX c o s r (fun s' => s' = S.put ⟨s.n, (s.forget r).T, (r, ⟨e, l1 ++ news, false, sz⟩) :: (s.forget r).H, (s.forget r).K⟩ o.dst (.own r sz (n + m) false)) := by
  intro g a w hs K Q hK
  obtain ⟨ad, cp, cs, n1, n2, n3, n4, n5⟩ := hnews g a w hs
  obtain ⟨i, hi1, hi2, hi3, hi4⟩ := hi.out
  have hown : ∃ xs : List Value, w.ownsRow 0 e sz (a.eval x) n xs ∧ (∀ (j : Nat) (u : V), l1[j]? = some u → ∃ y, xs[j]? = some y ∧ VRep w (qt c s.H g) g u y) ∧ ∀ b, (a.eval x).ownBlock = some b → row.nil = false ∧ b = (g r).1 := by
    have h := hs.ev hx
    generalize a.eval x = u at h
    cases h with
    | own _ _ _ hn hcap =>
      obtain ⟨arr, h1, h2, h3⟩ := hs.obj r row hr hf
      have hsz' : arr.size = (g r).2 * sz := by rw [h2 (by omega), hrz]
      have hle : n * sz ≤ arr.size := by rw [hsz']; exact Nat.mul_le_mul_right _ hn
      refine ⟨arr.toList.take (n * sz), ⟨by simp; omega, .inr ⟨(g r).1, (g r).2, arr, rfl, Nat.zero_le _, by rw [← hty]; exact h1, hn, hcap, hsz', rfl⟩⟩, fun j u hu => ?_, fun b hb => ⟨hf, by simpa [Value.ownBlock] using hb.symm⟩⟩
      have hjl : j < n * sz := by rw [← hl1]; exact (List.getElem?_eq_some_iff.1 hu).1
      rw [← hl, List.getElem?_take_of_lt hjl] at hu
      obtain ⟨y, h4, h5⟩ := h3 j u hu
      exact ⟨y, by rw [List.getElem?_take_of_lt hjl]; simpa using h4, h5⟩
    | ownNil =>
      refine ⟨[], ⟨by simp, .inl ⟨rfl, rfl⟩⟩, fun j u hu => ?_, fun b hb => by simp [Value.ownBlock] at hb⟩
      have : l1 = [] := by simpa using hl1
      simp [this] at hu
  obtain ⟨xs, o1, o2, o3⟩ := hown
  obtain ⟨v', w', hrun, r1, r2, r3, r4⟩ := run_append_own_at (P := c.P) w 0 t o.type e i z sz bt hu hi1 hi4 hi2 hi3 hzs hsz _ n xs o1 ad m cp cs n2 n3 n4 (by simp only [maxLen]; omega) hbt (Nat.zero_le _)
  obtain ⟨q1, q2⟩ := r1
  rcases q2 with ⟨_, h0⟩ | ⟨G, cap, cur, rfl, _, q3, q4, q5, q6, q7⟩
  · omega
  · have hG : row.nil = false ∧ G = (g r).1 ∨ G = w.heap.size := by
      rcases r4 with r4 | r4
      · exact .inl (o3 G (by rw [← r4]; rfl))
      · right; simpa [Value.ownBlock] using r4
    have hgrown := Sim.grown hs (row' := ⟨e, l1 ++ news, false, sz⟩) (cap := cap) hr hG rfl q3 (fun b hb hne => r2.block b hb (fun e' => (hne (o3 b e'.symm).1) (o3 b e'.symm).2)) r2.size r2.os r2.tape r2.output (by
        rw [V.hasL_false] at hc1 hc2 ⊢
        intro v hv
        rcases List.mem_append.1 hv with h | h
        · exact hc1 v h
        · exact hc2 v h) (fun _ => q6) (by
      intro j v hv
      simp only at hv
      have hcur : ∀ k, k < (n + m) * sz → cur[k]? = (xs ++ cs)[k]? := by
        intro k hk
        rw [← q7, List.getElem?_take_of_lt hk]
        simp
      have hxl : xs.length = n * sz := o1.1
      have hjl : j < (n + m) * sz := by
        have := (List.getElem?_eq_some_iff.1 hv).1
        simp only [List.length_append] at this
        rw [Nat.add_mul]; omega
      rw [hcur j hjl]
      by_cases hj : j < n * sz
      · rw [List.getElem?_append_left (by omega)] at hv ⊢
        exact o2 j v hv
      · rw [List.getElem?_append_right (by omega)] at hv ⊢
        have hlt : j - n * sz < cs.length := by rw [Nat.add_mul] at hjl; omega
        rw [hl1] at hv
        rw [hxl]
        exact ⟨cs[j - n * sz], List.getElem?_eq_getElem hlt, n5 _ v _ hv (List.getElem?_eq_getElem hlt)⟩)
    unfold Oper.wp
    have hexec : (execOp a.eval o).run c.P w = .ok (.value (.slice (some ⟨G, 0, none⟩) (n + m) cap)) w' := by
      simp only [execOp, ho, resolve, invoke, builtin, Sem.run_bind, Sem.run_pure, Result.andThen_ok, List.map_toArray, List.map_cons, List.map_nil, n1, hrun]
    rw [hexec]
    refine hK _ _ _ _ rfl (hgrown.put o.dst ?_ ?_) ⟨r2.size, fun k hk hne => r2.block k hk (fun e' => hne row hr (o3 k e'.symm).1 (o3 k e'.symm).2)⟩
    · exact dok_spec (s := s) hd
    · have := VRep.own (w := w') (q := qt c ((r, (⟨e, l1 ++ news, false, sz⟩ : Row)) :: (s.forget r).H) (fun k => if k = r then (G, cap) else g k)) (g := fun k => if k = r then (G, cap) else g k) r sz (n + m) (by simpa using q4) (by simpa using q5)
      simpa using this
theorem st_append_any {t e : TypeId} {x y : Operand} {r sz bt n m : Nat} {z : Value} {f : Bool} {row : Row} {l1 news : List V} (hu : c.P.underlying t = some (.slice e)) (hi : Inf c.P e sz bt z) (hzs : z.cells.size = sz) (hsz : 0 < sz)
    (ho : o.op = .call { callee := .builtin .append, args := #[x, y], argTypes := #[t, t] }) (hx : s.ev x = some (.own r sz n f)) (hr : fnd s.H r = some row) (hf : row.nil = f) (hrz : row.sz = sz) (hty : row.ty = e)
    (hl : row.cells.take (n * sz) = l1) (hl1 : l1.length = n * sz) (hc1 : V.hasL r l1 = false) (hnl : news.length = m * sz) (hc2 : V.hasL r news = false) (hm : 0 < m) (h63 : n + m ≤ 140737488355328) (hbt : (n + m) * bt ≤ 140737488355328) (hd : dok s o = true)
    (hnews : ∀ g a w, Sim c g s a w → ∃ (ad : Addr) (cp : Nat) (cs : List Value), a.eval y = .slice (some ad) m cp ∧ cs.length = m * sz ∧ (∀ (j : Nat) (u : Value), cs[j]? = some u → w.cell? (ad.add j) = some u) ∧ (∀ u ∈ cs, u.oneCell' = true) ∧
      ∀ (j : Nat) (u : V) (x : Value), news[j]? = some u → cs[j]? = some x → VRep w (qt c s.H g) g u x) :
    Step c o s (fun s' => s' = S.put ⟨s.n, (s.forget r).T, (r, ⟨e, l1 ++ news, false, sz⟩) :: (s.forget r).H, (s.forget r).K⟩ o.dst (.own r sz (n + m) false)) := (st_append_anyX hu hi hzs hsz ho hx hr hf hrz hty hl hl1 hc1 hnl hc2 hm h63 hbt hd hnews).step

theorem st_appendX {t e : TypeId} {x y : Operand} {r r2 sz bt n m : Nat} {z : Value} {f : Bool} {row row2 : Row} {l1 news : List V} (hu : c.P.underlying t = some (.slice e)) (hi : Inf c.P e sz bt z) (hzs : z.cells.size = sz) (hsz : 0 < sz)
    (ho : o.op = .call { callee := .builtin .append, args := #[x, y], argTypes := #[t, t] }) (hx : s.ev x = some (.own r sz n f)) (hr : fnd s.H r = some row) (hf : row.nil = f) (hrz : row.sz = sz) (hty : row.ty = e)
    (hl : row.cells.take (n * sz) = l1) (hl1 : l1.length = n * sz) (hc1 : V.hasL r l1 = false) (hy : s.ev y = some (.own r2 sz m false)) (hr2 : fnd s.H r2 = some row2) (hf2 : row2.nil = false) (hnews : row2.cells.take (m * sz) = news) (hnl : news.length = m * sz) (hc2 : V.hasL r news = false) (hone : news.all V.one = true) (hm : 0 < m) (h63 : n + m ≤ 140737488355328) (hbt : (n + m) * bt ≤ 140737488355328) (hd : dok s o = true) :
    StepX c o s r (fun s' => s' = S.put ⟨s.n, (s.forget r).T, (r, ⟨e, l1 ++ news, false, sz⟩) :: (s.forget r).H, (s.forget r).K⟩ o.dst (.own r sz (n + m) false)) :=
  st_append_anyX hu hi hzs hsz ho hx hr hf hrz hty hl hl1 hc1 hnl hc2 hm h63 hbt hd (fun g a w hs => by
    have h := hs.ev hy
    obtain ⟨arr, h1, h2, h3⟩ := hs.obj r2 row2 hr2 hf2
    generalize a.eval y = u at h
    cases h with
    | own _ _ _ hn hcap =>
      have hat : ∀ (j : Nat) (u : V), news[j]? = some u → ∃ x, arr[j]? = some x ∧ VRep w (qt c s.H g) g u x := by
        intro j u hu
        rw [← hnews] at hu
        rw [List.getElem?_take] at hu
        split at hu
        · exact h3 j u hu
        · cases hu
      have hsize : m * sz ≤ arr.size := by
        rw [← hnl]
        rcases Nat.eq_zero_or_pos news.length with h0 | h0
        · omega
        · obtain ⟨y, hy', _⟩ := hat (news.length - 1) news[news.length - 1] (List.getElem?_eq_getElem (by omega))
          have := (Array.getElem?_eq_some_iff.1 hy').1
          omega
      have hgt : ∀ (j : Nat) (u : Value), (arr.toList.take (m * sz))[j]? = some u → j < m * sz ∧ arr[j]? = some u := by
        intro j u hu
        rw [List.getElem?_take] at hu
        split at hu
        · rename_i hj; exact ⟨hj, by simpa using hu⟩
        · cases hu
      refine ⟨⟨(g r2).1, 0, none⟩, (g r2).2, arr.toList.take (m * sz), rfl, by simp; omega, fun j u hu => ?_, fun u hu => ?_, fun j u x hu hx => ?_⟩
      · rw [addr_add, Nat.zero_add]
        exact (cell_of_row w _ _ _ _ _ h1).trans (hgt j u hu).2
      · obtain ⟨j, hj⟩ := List.getElem?_of_mem hu
        obtain ⟨hjl, hj'⟩ := hgt j u hj
        obtain ⟨x, h4, h5⟩ := hat j news[j] (List.getElem?_eq_getElem (by omega))
        rw [hj'] at h4
        simp only [Option.some.injEq] at h4
        subst h4
        exact h5.one (List.all_eq_true.1 hone _ (List.getElem_mem _))
      · obtain ⟨y, h4, h5⟩ := hat j u hu
        rw [(hgt j x hx).2] at h4
        simp only [Option.some.injEq] at h4
        subst h4
        exact h5)
theorem st_append {t e : TypeId} {x y : Operand} {r r2 sz bt n m : Nat} {z : Value} {f : Bool} {row row2 : Row} {l1 news : List V} (hu : c.P.underlying t = some (.slice e)) (hi : Inf c.P e sz bt z) (hzs : z.cells.size = sz) (hsz : 0 < sz)
    (ho : o.op = .call { callee := .builtin .append, args := #[x, y], argTypes := #[t, t] }) (hx : s.ev x = some (.own r sz n f)) (hr : fnd s.H r = some row) (hf : row.nil = f) (hrz : row.sz = sz) (hty : row.ty = e)
    (hl : row.cells.take (n * sz) = l1) (hl1 : l1.length = n * sz) (hc1 : V.hasL r l1 = false) (hy : s.ev y = some (.own r2 sz m false)) (hr2 : fnd s.H r2 = some row2) (hf2 : row2.nil = false) (hnews : row2.cells.take (m * sz) = news) (hnl : news.length = m * sz) (hc2 : V.hasL r news = false) (hone : news.all V.one = true) (hm : 0 < m) (h63 : n + m ≤ 140737488355328) (hbt : (n + m) * bt ≤ 140737488355328) (hd : dok s o = true) :
    Step c o s (fun s' => s' = S.put ⟨s.n, (s.forget r).T, (r, ⟨e, l1 ++ news, false, sz⟩) :: (s.forget r).H, (s.forget r).K⟩ o.dst (.own r sz (n + m) false)) := (st_appendX hu hi hzs hsz ho hx hr hf hrz hty hl hl1 hc1 hy hr2 hf2 hnews hnl hc2 hone hm h63 hbt hd).step
end
end Go.Proofs.Ythlcginebeapdaa
