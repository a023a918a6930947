/- Part 2 of what the law CertainMakes rests on. -/
import Derived.Test.YthiknkcigcglkaaDoorPkCe1
namespace Go.Proofs.YthiknkcigcglkaaDoor
open Go.RowKit
set_option linter.unusedSimpArgs false
set_option linter.unusedVariables false
set_option maxRecDepth 100000
set_option maxHeartbeats 8000000
section
variable {c : Cx} {s : S} {o : Oper} {g : Nat → Nat × Nat} {a : Act} {w : World} {q : Nat → Prop}
/-- Another world, in which object r's block alone has turned. -/
theorem Sim.setRow (h : Sim c g s a w) {w' : World} {r : Nat} {row row' : Row} {arr' : Array Value} (hr : fnd s.H r = some row) (hn : row.nil = false) (hty : row'.ty = row.ty) (hn' : row'.nil = false) (hsr : row'.sz = row.sz)
    (hb : w'.heap[(g r).1]? = some (.cells arr' row.ty (0, 0))) (hob : ∀ b, b ≠ (g r).1 → w'.heap[b]? = w.heap[b]?) (hsize : w'.heap.size = w.heap.size) (hos : w'.os = w.os) (htp : w'.tape = w.tape) (hou : w'.output = w.output)
    (hsz : ∀ arr ty, w.heap[(g r).1]? = some (.cells arr ty (0, 0)) → arr'.size = arr.size)
    (hc : ∀ (j : Nat) (v : V), row'.cells[j]? = some v → ∃ x, arr'[j]? = some x ∧ VRep w (qt c s.H g) g v x) : Sim c g { s with H := (r, row') :: s.H } a w' := by
  have hq : ∀ b, qt c s.H g b → b < w.heap.size → qt c ((r, row') :: s.H) g b := by
    intro b hqb _
    refine ⟨hqb.1, fun k row'' hk hkn => ?_⟩
    by_cases e : k = r
    · subst e; exact hqb.2 k row hr hn
    · simp only [fnd, beq_iff_eq, Ne.symm e, if_false] at hk
      exact hqb.2 k row'' hk hkn
  have hw : Cells w w' (qt c s.H g) := ⟨by omega, fun b o u hqb hlt hcell => (World.cell?_of_block (w := w) (a := ⟨b, o, none⟩) (hob b (fun e => hqb.2 r row hr hn e.symm))).trans hcell, fun b es hne hm => (hob b fun e => by
      obtain ⟨arr, h1, _⟩ := h.obj r row hr hn
      rw [e, h1] at hm; cases hm; exact hne _ _ _ rfl).trans hm⟩
  have hm : ∀ {v x}, VRep w (qt c s.H g) g v x → VRep w' (qt c ((r, row') :: s.H) g) g v x := fun hv => hv.mono hw hq (fun r _ => rfl)
  have hfnd : ∀ k row'', fnd ((r, row') :: s.H) k = some row'' → k = r ∧ row'' = row' ∨ k ≠ r ∧ fnd s.H k = some row'' := by
    intro k row'' hk
    by_cases e : k = r
    · subst e; simp [fnd] at hk; exact .inl ⟨rfl, hk.symm⟩
    · simp only [fnd, beq_iff_eq, Ne.symm e, if_false] at hk; exact .inr ⟨e, hk⟩
  have hbel : Below c.w0.heap.size c.w0 w' := by
    refine h.below.trans ⟨hos, htp, hou, by omega, fun k hk => hob k ?_⟩
    have := h.base r row hr hn
    omega
  refine ⟨h.size, h.defers, ?_, ?_, ?_, ?_, ?_, ?_, h.low, hbel⟩
  · intro i v hv
    obtain ⟨x, h1, h2⟩ := h.tmp i v hv
    exact ⟨x, h1, hm h2⟩
  · intro k row'' hk hkn
    rcases hfnd k row'' hk with ⟨_, rfl⟩ | ⟨_, h1⟩
    · rw [hn'] at hkn; cases hkn
    · exact h.nul k row'' h1 hkn
  · intro k row'' hk hkn
    rcases hfnd k row'' hk with ⟨rfl, rfl⟩ | ⟨e, h1⟩
    · obtain ⟨arr0, h7, h8, _⟩ := h.obj _ row hr hn
      refine ⟨arr', by rw [hty]; exact hb, by rw [hsr, hsz _ _ h7]; exact h8, fun j v hv => ?_⟩
      obtain ⟨x, h2, h3⟩ := hc j v hv
      exact ⟨x, h2, hm h3⟩
    · obtain ⟨arr, h2, hzz, h3⟩ := h.obj k row'' h1 hkn
      refine ⟨arr, (hob _ fun e' => e (h.inj k r _ _ h1 hkn hr hn e')).trans h2, hzz, fun j v hv => ?_⟩
      obtain ⟨x, h4, h5⟩ := h3 j v hv
      exact ⟨x, h4, hm h5⟩
  · intro j v x h1 h2
    exact hm (h.keep j v x h1 h2)
  · intro k k' row1 row2 h1 n1 h2 n2 h3
    rcases hfnd k row1 h1 with ⟨rfl, rfl⟩ | ⟨e, h1'⟩ <;> rcases hfnd k' row2 h2 with ⟨rfl, rfl⟩ | ⟨e', h2'⟩
    · rfl
    · exact h.inj _ _ _ _ hr hn h2' n2 h3
    · exact h.inj _ _ _ _ h1' n1 hr hn h3
    · exact h.inj _ _ _ _ h1' n1 h2' n2 h3
  · intro k row'' hk hkn
    rcases hfnd k row'' hk with ⟨rfl, rfl⟩ | ⟨e, h1⟩
    · exact h.base _ row hr hn
    · exact h.base k _ h1 hkn
theorem st_store_any {t : TypeId} {sz bt : Nat} {z : Value} {x y : Operand} {r k : Nat} {row : Row} {v : V} {l : List V} (hi : Inf c.P t sz bt z) (ho : o.op = .store t x y) (hd : o.dst = none) (hx : s.ev x = some (.ref r k)) (hy : s.ev y = some v) (hr : fnd s.H r = some row) (hn : row.nil = false)
    (hok : v.ok = true) (hl : v.cs.length = sz) (hfit : k + sz ≤ row.cells.length) (hset : setL row.cells k v.cs = l) : Step c o s (fun s' => s' = { s with H := (r, { row with cells := l }) :: s.H }) := by
  intro g a w hs K Q hK
  obtain ⟨cs, c1, c2, c3, c4⟩ := (hs.ev hy).cells hok
  obtain ⟨arr, h1, _, h2⟩ := hs.obj r row hr hn
  have hlen : row.cells.length ≤ arr.size := by
    rcases Nat.eq_zero_or_pos row.cells.length with h0 | h0
    · omega
    · obtain ⟨y, hy', _⟩ := h2 (row.cells.length - 1) row.cells[row.cells.length - 1] (List.getElem?_eq_getElem (by omega))
      have := (Array.getElem?_eq_some_iff.1 hy').1
      omega
  have hrun := run_storeCells_at c.P (g r).1 k row.ty cs 0 arr w h1 (by omega) c4
  have hx' : a.eval x = .pointer (some ⟨(g r).1, k, none⟩) := by
    have h := hs.ev hx
    generalize a.eval x = u at h
    cases h; rfl
  have hsz : (a.eval y).cells.size = sz := by rw [c1]; simp; omega
  unfold Oper.wp
  have hexec : (execOp a.eval o).run c.P w = .ok .skip (w.setRow (g r).1 (arr.toList.take (k + 0) ++ cs ++ arr.toList.drop (k + 0 + cs.length)).toArray) := by
    simp only [execOp, ho, hx', Instr.storeAt, Instr.sureAddr, storeVar, Sem.run_bind, Sem.run_pure, Result.andThen_ok, run_sizeOf hi, hsz]
    simp [c1, hrun]
  rw [hexec]
  simp only [Oper.upon, hd, Act.put]
  simp only [Nat.add_zero]
  refine hK g _ a _ rfl (Sim.setRow hs (row' := { row with cells := l }) hr hn rfl hn rfl (setRow_heap _ _ _ _ _ _ h1) (fun b hb => setRow_other _ _ _ _ hb) (by simp) rfl rfl rfl ?_ ?_)
  · intro arr0 ty h0
    rw [h1] at h0
    simp only [Option.some.injEq, Obj.cells.injEq, and_true] at h0
    obtain ⟨rfl, _⟩ := h0
    simp; omega
  · intro j u hu
    subst hset
    simp only at hu
    rw [setL_get (by omega)] at hu
    have hget : ((arr.toList.take k ++ cs ++ arr.toList.drop (k + cs.length)).toArray)[j]? = if k ≤ j ∧ j < k + cs.length then cs[j - k]? else arr[j]? := by
      simp only [List.getElem?_toArray]
      by_cases e1 : j < k
      · rw [if_neg (by omega), List.append_assoc, List.getElem?_append_left (by simp; omega), List.getElem?_take_of_lt e1]; simp
      · by_cases e2 : j < k + cs.length
        · rw [if_pos (by omega), List.append_assoc, List.getElem?_append_right (by simp; omega), List.getElem?_append_left (by simp; omega)]
          congr 1
          simp; omega
        · rw [if_neg (by omega), List.append_assoc, List.getElem?_append_right (by simp; omega), List.getElem?_append_right (by simp; omega), List.getElem?_drop]
          simp only [Array.getElem?_toList]
          congr 1
          simp; omega
    rw [hget]
    by_cases hj : k ≤ j ∧ j < k + v.cs.length
    · rw [if_pos hj] at hu
      rw [if_pos (by omega)]
      have hjl : j - k < cs.length := by omega
      exact ⟨cs[j - k], List.getElem?_eq_getElem hjl, c3 _ u _ hu (List.getElem?_eq_getElem hjl)⟩
    · rw [if_neg hj] at hu
      rw [if_neg (by omega)]
      exact h2 j u hu
/-- A store of one cell. -/
theorem st_store {t : TypeId} {bt : Nat} {z : Value} {x y : Operand} {r k : Nat} {row : Row} {v : V} {l : List V} (hi : Inf c.P t 1 bt z) (ho : o.op = .store t x y) (hd : o.dst = none) (hx : s.ev x = some (.ref r k)) (hy : s.ev y = some v) (hr : fnd s.H r = some row) (hn : row.nil = false)
    (hok : v.one = true) (hfit : k < row.cells.length) (hset : row.cells.set k v = l) : Step c o s (fun s' => s' = { s with H := (r, { row with cells := l }) :: s.H }) := by
  have hcs : v.cs = [v] := by cases v <;> first | rfl | (simp [V.one] at hok)
  refine st_store_any hi ho hd hx hy hr hn ?_ (by rw [hcs]; rfl) (by omega) ?_
  · cases v <;> first | exact hok | (simp [V.one] at hok)
  · rw [← hset, hcs]
    apply List.ext_getElem?
    intro j
    rw [setL_get (by simp; omega), List.getElem?_set]
    by_cases e : k = j
    · subst e; simp [hfit]
    · rw [if_neg (by simp; omega), if_neg e]
/-- What is left of a state when object r is no more. -/
def junkIf (r : Nat) (v : V) : V := if v.has r then .junk else v
def S.forget (s : S) (r : Nat) : S := ⟨s.n, s.T.map (fun x => (x.1, junkIf r x.2)), (s.H.filter (fun x => x.1 != r)).map (fun x => (x.1, { x.2 with cells := if V.hasL r x.2.cells then x.2.cells.map (junkIf r) else x.2.cells })), s.K.map (junkIf r)⟩
theorem fnd_map {α β : Type} (f : α → β) : ∀ (l : List (Nat × α)) (i : Nat), fnd (l.map (fun x => (x.1, f x.2))) i = (fnd l i).map f
  | [], i => rfl
  | (k, v) :: r, i => by
    simp only [List.map_cons, fnd]
    split
    · rfl
    · exact fnd_map f r i
theorem fnd_filter {α : Type} (r : Nat) : ∀ (l : List (Nat × α)) (i : Nat), i ≠ r → fnd (l.filter (fun x => x.1 != r)) i = fnd l i
  | [], i, _ => rfl
  | (k, v) :: l, i, h => by
    by_cases e : k = r
    · subst e
      have h0 : ((k, v).1 != k) = false := by simp
      rw [List.filter_cons, if_neg (by simp), fnd_filter k l i h]
      simp [fnd, Ne.symm h]
    · rw [List.filter_cons, if_pos (by simpa using e)]
      simp only [fnd, fnd_filter r l i h]
theorem fnd_filter_self {α : Type} (r : Nat) : ∀ (l : List (Nat × α)), fnd (l.filter (fun x => x.1 != r)) r = none
  | [] => rfl
  | (k, v) :: l => by
    by_cases e : k = r
    · subst e
      rw [List.filter_cons, if_neg (by simp)]
      exact fnd_filter_self k l
    · rw [List.filter_cons, if_pos (by simpa using e)]
      simp only [fnd, beq_iff_eq, e, if_false]
      exact fnd_filter_self r l
theorem junkIf_clean {r : Nat} (v : V) : (junkIf r v).has r = false := by
  unfold junkIf
  split
  · rfl
  · rename_i h; simpa using h
theorem junkIf_wk {r : Nat} (v : V) : Wk (junkIf r v) v := by
  unfold junkIf
  split
  · exact .junk _
  · exact .refl _
/-- A slice has grown: into its own block or into a new one. -/
theorem Sim.grown (h : Sim c g s a w) {w' : World} {r : Nat} {row row' : Row} {G cap : Nat} {arr' : Array Value} (hr : fnd s.H r = some row) (hG : row.nil = false ∧ G = (g r).1 ∨ G = w.heap.size) (hn' : row'.nil = false)
    (hb : w'.heap[G]? = some (.cells arr' row'.ty (0, 0))) (hob : ∀ b, b < w.heap.size → (row.nil = false → b ≠ (g r).1) → w'.heap[b]? = w.heap[b]?) (hsize : w.heap.size ≤ w'.heap.size) (hos : w'.os = w.os) (htp : w'.tape = w.tape) (hou : w'.output = w.output)
    (hrow' : V.hasL r row'.cells = false) (hcap : row'.sz ≠ 0 → arr'.size = cap * row'.sz) (hc : ∀ (j : Nat) (v : V), row'.cells[j]? = some v → ∃ x, arr'[j]? = some x ∧ VRep w (qt c s.H g) g v x) :
    Sim c (fun k => if k = r then (G, cap) else g k) ⟨s.n, (s.forget r).T, (r, row') :: (s.forget r).H, (s.forget r).K⟩ a w' := by
  have hlt : ∀ {b o}, w.heap[b]? = some o → b < w.heap.size := fun h => (Array.getElem?_eq_some_iff.1 h).1
  have hGb : c.w0.heap.size ≤ G := by
    rcases hG with ⟨h1, rfl⟩ | rfl
    · exact h.base r row hr h1
    · exact h.below.size
  have hfH : ∀ k row'', fnd ((r, row') :: (s.forget r).H) k = some row'' → k = r ∧ row'' = row' ∨ k ≠ r ∧ ∃ row0, fnd s.H k = some row0 ∧ row''.ty = row0.ty ∧ row''.nil = row0.nil ∧ row''.sz = row0.sz ∧ ∀ (j : Nat) (v : V), row''.cells[j]? = some v → v.has r = false ∧ ∃ u, row0.cells[j]? = some u ∧ Wk v u := by
    intro k row'' hk
    by_cases e : k = r
    · subst e; simp [fnd] at hk; exact .inl ⟨rfl, hk.symm⟩
    · simp only [fnd, beq_iff_eq, Ne.symm e, if_false] at hk
      refine .inr ⟨e, ?_⟩
      simp only [S.forget] at hk
      rw [fnd_map (fun (x : Row) => ({ x with cells := if V.hasL r x.cells then x.cells.map (junkIf r) else x.cells } : Row)), fnd_filter r _ _ e] at hk
      cases h0 : fnd s.H k with
      | none => rw [h0] at hk; cases hk
      | some row0 =>
        rw [h0] at hk
        simp only [Option.map_some, Option.some.injEq] at hk
        subst hk
        refine ⟨row0, rfl, rfl, rfl, rfl, fun j v hv => ?_⟩
        simp only at hv
        split at hv
        · rw [List.getElem?_map] at hv
          cases h1 : row0.cells[j]? with
          | none => rw [h1] at hv; cases hv
          | some u =>
            rw [h1] at hv
            simp only [Option.map_some, Option.some.injEq] at hv
            subst hv
            exact ⟨junkIf_clean u, u, rfl, junkIf_wk u⟩
        · rename_i hh
          exact ⟨V.hasL_false.1 (by simpa using hh) v (List.mem_of_getElem? hv), v, hv, .refl _⟩
  have hfT : ∀ i v, fnd (s.forget r).T i = some v → ∃ u, fnd s.T i = some u ∧ v = junkIf r u := by
    intro i v hv
    simp only [S.forget] at hv
    rw [fnd_map] at hv
    cases h0 : fnd s.T i with
    | none => rw [h0] at hv; cases hv
    | some u => rw [h0] at hv; simp only [Option.map_some, Option.some.injEq] at hv; exact ⟨u, rfl, hv.symm⟩
  have hq : ∀ b, qt c s.H g b → b < w.heap.size → qt c ((r, row') :: (s.forget r).H) (fun k => if k = r then (G, cap) else g k) b := by
    intro b hqb hbl
    refine ⟨hqb.1, fun k row'' hk hkn => ?_⟩
    rcases hfH k row'' hk with ⟨rfl, rfl⟩ | ⟨e, row0, h1, _, h3, _, _⟩
    · simp only [if_true]
      rcases hG with ⟨h1, rfl⟩ | rfl
      · exact hqb.2 k row hr h1
      · omega
    · simp only [e, if_false]
      exact hqb.2 k row0 h1 (h3 ▸ hkn)
  have hw : Cells w w' (qt c s.H g) := ⟨hsize, fun b o u hqb hbl hcell => (World.cell?_of_block (w := w) (a := ⟨b, o, none⟩) (hob b hbl (fun hn e => hqb.2 r row hr hn e.symm))).trans hcell, fun b es hne hm => (hob b (Array.getElem?_eq_some_iff.1 hm).1 fun hn e => by
      obtain ⟨arr, h1, _⟩ := h.obj r row hr hn
      rw [e, h1] at hm; cases hm; exact hne _ _ _ rfl).trans hm⟩
  have hm : ∀ {v x}, v.has r = false → VRep w (qt c s.H g) g v x → VRep w' (qt c ((r, row') :: (s.forget r).H) (fun k => if k = r then (G, cap) else g k)) (fun k => if k = r then (G, cap) else g k) v x := by
    intro v x hv hx
    refine hx.mono hw hq fun k hk => ?_
    have e : k ≠ r := by rintro rfl; rw [hv] at hk; cases hk
    simp [e]
  have hbel : Below c.w0.heap.size c.w0 w' := by
    refine h.below.trans ⟨hos, htp, hou, by have := h.below.size; omega, fun k hk => hob k (by have := h.below.size; omega) fun hn => ?_⟩
    have := h.base r row hr hn
    omega
  refine ⟨h.size, h.defers, ?_, ?_, ?_, ?_, ?_, ?_, h.low, hbel⟩
  · intro i v hv
    obtain ⟨u, h1, rfl⟩ := hfT i v hv
    obtain ⟨x, h2, h3⟩ := h.tmp i u h1
    exact ⟨x, h2, hm (junkIf_clean u) ((junkIf_wk u).rep h3)⟩
  · intro k row'' hk hkn
    rcases hfH k row'' hk with ⟨_, rfl⟩ | ⟨_, row0, h1, _, h3, _, h4⟩
    · rw [hn'] at hkn; cases hkn
    · have h0 := h.nul k row0 h1 (h3 ▸ hkn)
      cases hcc : row''.cells with
      | nil => rfl
      | cons v l =>
        obtain ⟨_, u, h5, _⟩ := h4 0 v (by simp [hcc])
        simp [h0] at h5
  · intro k row'' hk hkn
    rcases hfH k row'' hk with ⟨rfl, rfl⟩ | ⟨e, row0, h1, h2, h3, hz0, h4⟩
    · refine ⟨arr', by simpa using hb, by simpa using hcap, fun j v hv => ?_⟩
      obtain ⟨x, h2, h3⟩ := hc j v hv
      exact ⟨x, h2, hm (V.hasL_false.1 hrow' v (List.mem_of_getElem? hv)) h3⟩
    · obtain ⟨arr, h5, h55, h6⟩ := h.obj k row0 h1 (h3 ▸ hkn)
      refine ⟨arr, ?_, by rw [hz0]; simpa only [e, if_false] using h55, fun j v hv => ?_⟩
      · simp only [e, if_false]
        rw [h2]
        exact (hob _ (hlt h5) (fun hn e' => e (h.inj k r _ _ h1 (h3 ▸ hkn) hr hn e'))).trans h5
      · obtain ⟨hcl, u, h7, h8⟩ := h4 j v hv
        obtain ⟨x, h9, h10⟩ := h6 j u h7
        exact ⟨x, h9, hm hcl (h8.rep h10)⟩
  · intro j v x h1 h2
    simp only [S.forget, List.getElem?_map] at h1
    cases h0 : s.K[j]? with
    | none => rw [h0] at h1; cases h1
    | some u =>
      rw [h0] at h1
      simp only [Option.map_some, Option.some.injEq] at h1
      subst h1
      exact hm (junkIf_clean u) ((junkIf_wk u).rep (h.keep j u x h0 h2))
  · intro k k' row1 row2 h1 n1 h2 n2 h3
    rcases hfH k row1 h1 with ⟨rfl, rfl⟩ | ⟨e, row0, h1', _, m1, _, _⟩ <;> rcases hfH k' row2 h2 with ⟨rfl, rfl⟩ | ⟨e', row0', h2', _, m2, _, _⟩
    · rfl
    · simp only [e', if_true, if_false] at h3
      obtain ⟨arr, h5, _⟩ := h.obj k' row0' h2' (m2 ▸ n2)
      have := hlt h5
      rcases hG with ⟨hn, rfl⟩ | rfl
      · exact absurd (h.inj _ _ _ _ hr hn h2' (m2 ▸ n2) h3).symm e'
      · omega
    · simp only [e, if_true, if_false] at h3
      obtain ⟨arr, h5, _⟩ := h.obj k row0 h1' (m1 ▸ n1)
      have := hlt h5
      rcases hG with ⟨hn, rfl⟩ | rfl
      · exact absurd (h.inj _ _ _ _ hr hn h1' (m1 ▸ n1) h3.symm).symm e
      · omega
    · simp only [e, e', if_false] at h3
      exact h.inj _ _ _ _ h1' (m1 ▸ n1) h2' (m2 ▸ n2) h3
  · intro k row'' hk hkn
    rcases hfH k row'' hk with ⟨rfl, rfl⟩ | ⟨e, row0, h1, _, m1, _, _⟩
    · simpa using hGb
    · simp only [e, if_false]
      exact h.base k _ h1 (m1 ▸ hkn)
/-- One operation that changes no block but that of object r. -/
def StepX (c : Cx) (o : Oper) (s : S) (r : Nat) (N : S → Prop) : Prop := ∀ g a w, Sim c g s a w → ∀ (K : Act → World → Prop) (Q : Exit → Act → World → Prop),
  (∀ g' s' a' w', N s' → Sim c g' s' a' w' → (w.heap.size ≤ w'.heap.size ∧ ∀ k, k < w.heap.size → (∀ row, fnd s.H r = some row → row.nil = false → k ≠ (g r).1) → w'.heap[k]? = w.heap[k]?) → K a' w') → o.wp c.P a w K Q
theorem StepX.step {r : Nat} {N : S → Prop} (h : StepX c o s r N) : Step c o s N := fun g a w hs K Q hK => h g a w hs K Q fun g' s' a' w' h1 h2 _ => hK g' s' a' w' h1 h2
/-- append, of at least one element, onto a slice of the call's own (nil or not). -/
theorem st_append_anyX {t e : TypeId} {x y : Operand} {r sz bt n m : Nat} {z : Value} {f : Bool} {row : Row} {l1 news : List V} (hu : c.P.underlying t = some (.slice e)) (hi : Inf c.P e sz bt z) (hzs : z.cells.size = sz) (hsz : 0 < sz)
    (ho : o.op = .call { callee := .builtin .append, args := #[x, y], argTypes := #[t, t] }) (hx : s.ev x = some (.own r sz n f)) (hr : fnd s.H r = some row) (hf : row.nil = f) (hrz : row.sz = sz) (hty : row.ty = e)
    (hl : row.cells.take (n * sz) = l1) (hl1 : l1.length = n * sz) (hc1 : V.hasL r l1 = false) (hnl : news.length = m * sz) (hc2 : V.hasL r news = false) (hm : 0 < m) (h63 : n + m ≤ 140737488355328) (hbt : (n + m) * bt ≤ 140737488355328) (hd : dok s o = true)
    (hnews : ∀ g a w, Sim c g s a w → ∃ (ad : Addr) (cp : Nat) (cs : List Value), a.eval y = .slice (some ad) m cp ∧ cs.length = m * sz ∧ (∀ (j : Nat) (u : Value), cs[j]? = some u → w.cell? (ad.add j) = some u) ∧ (∀ u ∈ cs, u.oneCell' = true) ∧
      ∀ (j : Nat) (u : V) (x : Value), news[j]? = some u → cs[j]? = some x → VRep w (qt c s.H g) g u x) :
    StepX c o s r (fun s' => s' = S.put ⟨s.n, (s.forget r).T, (r, ⟨e, l1 ++ news, false, sz⟩) :: (s.forget r).H, (s.forget r).K⟩ o.dst (.own r sz (n + m) false)) := by
  intro g a w hs K Q hK
  obtain ⟨ad, cp, cs, n1, n2, n3, n4, n5⟩ := hnews g a w hs
  obtain ⟨i, hi1, hi2, hi3, hi4⟩ := hi.out
  have hown : ∃ xs : List Value, w.ownsRow 0 e sz (a.eval x) n xs ∧ (∀ (j : Nat) (u : V), l1[j]? = some u → ∃ y, xs[j]? = some y ∧ VRep w (qt c s.H g) g u y) ∧ ∀ b, (a.eval x).ownBlock = some b → row.nil = false ∧ b = (g r).1 := by
    have h := hs.ev hx
    generalize a.eval x = u at h
    cases h with
    | own _ _ _ hn hcap =>
      obtain ⟨arr, h1, h2, h3⟩ := hs.obj r row hr hf
      have hsz' : arr.size = (g r).2 * sz := by rw [h2 (by omega), hrz]
      have hle : n * sz ≤ arr.size := by rw [hsz']; exact Nat.mul_le_mul_right _ hn
      refine ⟨arr.toList.take (n * sz), ⟨by simp; omega, .inr ⟨(g r).1, (g r).2, arr, rfl, Nat.zero_le _, by rw [← hty]; exact h1, hn, hcap, hsz', rfl⟩⟩, fun j u hu => ?_, fun b hb => ⟨hf, by simpa [Value.ownBlock] using hb.symm⟩⟩
      have hjl : j < n * sz := by rw [← hl1]; exact (List.getElem?_eq_some_iff.1 hu).1
      rw [← hl, List.getElem?_take_of_lt hjl] at hu
      obtain ⟨y, h4, h5⟩ := h3 j u hu
      exact ⟨y, by rw [List.getElem?_take_of_lt hjl]; simpa using h4, h5⟩
    | ownNil =>
      refine ⟨[], ⟨by simp, .inl ⟨rfl, rfl⟩⟩, fun j u hu => ?_, fun b hb => by simp [Value.ownBlock] at hb⟩
      have : l1 = [] := by simpa using hl1
      simp [this] at hu
  obtain ⟨xs, o1, o2, o3⟩ := hown
  obtain ⟨v', w', hrun, r1, r2, r3, r4⟩ := run_append_own_at (P := c.P) w 0 t o.type e i z sz bt hu hi1 hi4 hi2 hi3 hzs hsz _ n xs o1 ad m cp cs n2 n3 n4 (by simp only [maxLen]; omega) hbt (Nat.zero_le _)
  obtain ⟨q1, q2⟩ := r1
  rcases q2 with ⟨_, h0⟩ | ⟨G, cap, cur, rfl, _, q3, q4, q5, q6, q7⟩
  · omega
  · have hG : row.nil = false ∧ G = (g r).1 ∨ G = w.heap.size := by
      rcases r4 with r4 | r4
      · exact .inl (o3 G (by rw [← r4]; rfl))
      · right; simpa [Value.ownBlock] using r4
    have hgrown := Sim.grown hs (row' := ⟨e, l1 ++ news, false, sz⟩) (cap := cap) hr hG rfl q3 (fun b hb hne => r2.block b hb (fun e' => (hne (o3 b e'.symm).1) (o3 b e'.symm).2)) r2.size r2.os r2.tape r2.output (by
        rw [V.hasL_false] at hc1 hc2 ⊢
        intro v hv
        rcases List.mem_append.1 hv with h | h
        · exact hc1 v h
        · exact hc2 v h) (fun _ => q6) (by
      intro j v hv
      simp only at hv
      have hcur : ∀ k, k < (n + m) * sz → cur[k]? = (xs ++ cs)[k]? := by
        intro k hk
        rw [← q7, List.getElem?_take_of_lt hk]
        simp
      have hxl : xs.length = n * sz := o1.1
      have hjl : j < (n + m) * sz := by
        have := (List.getElem?_eq_some_iff.1 hv).1
        simp only [List.length_append] at this
        rw [Nat.add_mul]; omega
      rw [hcur j hjl]
      by_cases hj : j < n * sz
      · rw [List.getElem?_append_left (by omega)] at hv ⊢
        exact o2 j v hv
      · rw [List.getElem?_append_right (by omega)] at hv ⊢
        have hlt : j - n * sz < cs.length := by rw [Nat.add_mul] at hjl; omega
        rw [hl1] at hv
        rw [hxl]
        exact ⟨cs[j - n * sz], List.getElem?_eq_getElem hlt, n5 _ v _ hv (List.getElem?_eq_getElem hlt)⟩)
    unfold Oper.wp
    have hexec : (execOp a.eval o).run c.P w = .ok (.value (.slice (some ⟨G, 0, none⟩) (n + m) cap)) w' := by
      simp only [execOp, ho, resolve, invoke, builtin, Sem.run_bind, Sem.run_pure, Result.andThen_ok, List.map_toArray, List.map_cons, List.map_nil, n1, hrun]
    rw [hexec]
    refine hK _ _ _ _ rfl (hgrown.put o.dst ?_ ?_) ⟨r2.size, fun k hk hne => r2.block k hk (fun e' => hne row hr (o3 k e'.symm).1 (o3 k e'.symm).2)⟩
    · exact dok_spec (s := s) hd
    · have := VRep.own (w := w') (q := qt c ((r, (⟨e, l1 ++ news, false, sz⟩ : Row)) :: (s.forget r).H) (fun k => if k = r then (G, cap) else g k)) (g := fun k => if k = r then (G, cap) else g k) r sz (n + m) (by simpa using q4) (by simpa using q5)
      simpa using this
theorem st_append_any {t e : TypeId} {x y : Operand} {r sz bt n m : Nat} {z : Value} {f : Bool} {row : Row} {l1 news : List V} (hu : c.P.underlying t = some (.slice e)) (hi : Inf c.P e sz bt z) (hzs : z.cells.size = sz) (hsz : 0 < sz)
    (ho : o.op = .call { callee := .builtin .append, args := #[x, y], argTypes := #[t, t] }) (hx : s.ev x = some (.own r sz n f)) (hr : fnd s.H r = some row) (hf : row.nil = f) (hrz : row.sz = sz) (hty : row.ty = e)
    (hl : row.cells.take (n * sz) = l1) (hl1 : l1.length = n * sz) (hc1 : V.hasL r l1 = false) (hnl : news.length = m * sz) (hc2 : V.hasL r news = false) (hm : 0 < m) (h63 : n + m ≤ 140737488355328) (hbt : (n + m) * bt ≤ 140737488355328) (hd : dok s o = true)
    (hnews : ∀ g a w, Sim c g s a w → ∃ (ad : Addr) (cp : Nat) (cs : List Value), a.eval y = .slice (some ad) m cp ∧ cs.length = m * sz ∧ (∀ (j : Nat) (u : Value), cs[j]? = some u → w.cell? (ad.add j) = some u) ∧ (∀ u ∈ cs, u.oneCell' = true) ∧
      ∀ (j : Nat) (u : V) (x : Value), news[j]? = some u → cs[j]? = some x → VRep w (qt c s.H g) g u x) :
    Step c o s (fun s' => s' = S.put ⟨s.n, (s.forget r).T, (r, ⟨e, l1 ++ news, false, sz⟩) :: (s.forget r).H, (s.forget r).K⟩ o.dst (.own r sz (n + m) false)) := (st_append_anyX hu hi hzs hsz ho hx hr hf hrz hty hl hl1 hc1 hnl hc2 hm h63 hbt hd hnews).step
theorem st_appendX {t e : TypeId} {x y : Operand} {r r2 sz bt n m : Nat} {z : Value} {f : Bool} {row row2 : Row} {l1 news : List V} (hu : c.P.underlying t = some (.slice e)) (hi : Inf c.P e sz bt z) (hzs : z.cells.size = sz) (hsz : 0 < sz)
    (ho : o.op = .call { callee := .builtin .append, args := #[x, y], argTypes := #[t, t] }) (hx : s.ev x = some (.own r sz n f)) (hr : fnd s.H r = some row) (hf : row.nil = f) (hrz : row.sz = sz) (hty : row.ty = e)
    (hl : row.cells.take (n * sz) = l1) (hl1 : l1.length = n * sz) (hc1 : V.hasL r l1 = false) (hy : s.ev y = some (.own r2 sz m false)) (hr2 : fnd s.H r2 = some row2) (hf2 : row2.nil = false) (hnews : row2.cells.take (m * sz) = news) (hnl : news.length = m * sz) (hc2 : V.hasL r news = false) (hone : news.all V.one = true) (hm : 0 < m) (h63 : n + m ≤ 140737488355328) (hbt : (n + m) * bt ≤ 140737488355328) (hd : dok s o = true) :
    StepX c o s r (fun s' => s' = S.put ⟨s.n, (s.forget r).T, (r, ⟨e, l1 ++ news, false, sz⟩) :: (s.forget r).H, (s.forget r).K⟩ o.dst (.own r sz (n + m) false)) :=
  st_append_anyX hu hi hzs hsz ho hx hr hf hrz hty hl hl1 hc1 hnl hc2 hm h63 hbt hd (fun g a w hs => by
    have h := hs.ev hy
    obtain ⟨arr, h1, h2, h3⟩ := hs.obj r2 row2 hr2 hf2
    generalize a.eval y = u at h
    cases h with
    | own _ _ _ hn hcap =>
      have hat : ∀ (j : Nat) (u : V), news[j]? = some u → ∃ x, arr[j]? = some x ∧ VRep w (qt c s.H g) g u x := by
        intro j u hu
        rw [← hnews] at hu
        rw [List.getElem?_take] at hu
        split at hu
        · exact h3 j u hu
        · cases hu
      have hsize : m * sz ≤ arr.size := by
        rw [← hnl]
        rcases Nat.eq_zero_or_pos news.length with h0 | h0
        · omega
        · obtain ⟨y, hy', _⟩ := hat (news.length - 1) news[news.length - 1] (List.getElem?_eq_getElem (by omega))
          have := (Array.getElem?_eq_some_iff.1 hy').1
          omega
      have hgt : ∀ (j : Nat) (u : Value), (arr.toList.take (m * sz))[j]? = some u → j < m * sz ∧ arr[j]? = some u := by
        intro j u hu
        rw [List.getElem?_take] at hu
        split at hu
        · rename_i hj; exact ⟨hj, by simpa using hu⟩
        · cases hu
      refine ⟨⟨(g r2).1, 0, none⟩, (g r2).2, arr.toList.take (m * sz), rfl, by simp; omega, fun j u hu => ?_, fun u hu => ?_, fun j u x hu hx => ?_⟩
      · rw [addr_add, Nat.zero_add]
        exact (cell_of_row w _ _ _ _ _ h1).trans (hgt j u hu).2
      · obtain ⟨j, hj⟩ := List.getElem?_of_mem hu
        obtain ⟨hjl, hj'⟩ := hgt j u hj
        obtain ⟨x, h4, h5⟩ := hat j news[j] (List.getElem?_eq_getElem (by omega))
        rw [hj'] at h4
        simp only [Option.some.injEq] at h4
        subst h4
        exact h5.one (List.all_eq_true.1 hone _ (List.getElem_mem _))
      · obtain ⟨y, h4, h5⟩ := hat j u hu
        rw [(hgt j x hx).2] at h4
        simp only [Option.some.injEq] at h4
        subst h4
        exact h5)
theorem st_append {t e : TypeId} {x y : Operand} {r r2 sz bt n m : Nat} {z : Value} {f : Bool} {row row2 : Row} {l1 news : List V} (hu : c.P.underlying t = some (.slice e)) (hi : Inf c.P e sz bt z) (hzs : z.cells.size = sz) (hsz : 0 < sz)
    (ho : o.op = .call { callee := .builtin .append, args := #[x, y], argTypes := #[t, t] }) (hx : s.ev x = some (.own r sz n f)) (hr : fnd s.H r = some row) (hf : row.nil = f) (hrz : row.sz = sz) (hty : row.ty = e)
    (hl : row.cells.take (n * sz) = l1) (hl1 : l1.length = n * sz) (hc1 : V.hasL r l1 = false) (hy : s.ev y = some (.own r2 sz m false)) (hr2 : fnd s.H r2 = some row2) (hf2 : row2.nil = false) (hnews : row2.cells.take (m * sz) = news) (hnl : news.length = m * sz) (hc2 : V.hasL r news = false) (hone : news.all V.one = true) (hm : 0 < m) (h63 : n + m ≤ 140737488355328) (hbt : (n + m) * bt ≤ 140737488355328) (hd : dok s o = true) :
    Step c o s (fun s' => s' = S.put ⟨s.n, (s.forget r).T, (r, ⟨e, l1 ++ news, false, sz⟩) :: (s.forget r).H, (s.forget r).K⟩ o.dst (.own r sz (n + m) false)) := (st_appendX hu hi hzs hsz ho hx hr hf hrz hty hl hl1 hc1 hy hr2 hf2 hnews hnl hc2 hone hm h63 hbt hd).step
end
/-- A value that speaks of no object. -/
def V.pure (v : V) : Prop := ∀ r, v.has r = false
def VReps (w : World) (q : Nat → Prop) (g : Nat → Nat × Nat) (vs : List V) (xs : List Value) : Prop := vs.length = xs.length ∧ ∀ (j : Nat) (u : V) (x : Value), vs[j]? = some u → xs[j]? = some x → VRep w q g u x
/-- What a function does that changes nothing of what was there: from arguments to a result of which post holds. -/
def Fn (P : Program) (f : FuncId) (args : List V) (post : V → Prop) : Prop := ∀ (w : World) (out : Nat → Prop) (g : Nat → Nat × Nat) (xs : List Value), (∀ b, out b → b < w.heap.size) → VReps w (fun b => ¬ out b) g args xs →
  Calls P f xs.toArray w fun e w' => ∃ v x, e = .returned x ∧ post v ∧ v.pure ∧ VRep w' (fun b => ¬ out b) g v x ∧ Below w.heap.size w w'
theorem Fn.mono {P : Program} {f : FuncId} {args : List V} {post post' : V → Prop} (h : Fn P f args post) (hp : ∀ v, post v → post' v) : Fn P f args post' := fun w out g xs h1 h2 =>
  (h w out g xs h1 h2).mono fun e w' ⟨v, x, h3, h4, h5⟩ => ⟨v, x, h3, hp v h4, h5⟩
/-- How a function stands in the program. -/
structure Is (P : Program) (f : FuncId) (fn : Func) (code : Code) (n : Nat) (rs : List ResultVar) : Prop where
  func : P.funcs[f]? = some fn
  name : (fn.name == "runtime.NumGoroutine") = false
  body : fn.body = some code
  ntmps : fn.ntmps = n
  results : fn.results = rs.toArray
def resOne (P : Program) (s : S) (r : ResultVar) (v : V) : Prop :=
  match r with
  | .tmp t => fnd s.T t = some v
  | .cell a ty => ∃ r k row d, fnd s.T a = some (.ref r k) ∧ fnd s.H r = some row ∧ row.nil = false ∧ P.underlying ty = some d ∧
      (isAggD d = false ∧ row.cells[k]? = some v ∨ isAggD d = true ∧ ∃ sz bt z l, Inf P ty sz bt z ∧ (row.cells.drop k).take sz = l ∧ l.length = sz ∧ v = .agg l)
def resL (P : Program) (s : S) : List ResultVar → List V → Prop
  | [], [] => True
  | r :: rs, v :: vs => resOne P s r v ∧ resL P s rs vs
  | _, _ => False
def tupOf : List V → V
  | [v] => v
  | vs => .tup vs
def QF (P : Program) (rs : List ResultVar) (post : V → Prop) : Exit → S → Prop
  | .normal, s => ∃ vs, resL P s rs vs ∧ post (tupOf vs) ∧ (tupOf vs).pure
  | .ret, s => ∃ vs, resL P s rs vs ∧ post (tupOf vs) ∧ (tupOf vs).pure
  | _, _ => False
def enum : Nat → List V → List (Nat × V)
  | _, [] => []
  | n, v :: vs => (n, v) :: enum (n + 1) vs
theorem fnd_enum : ∀ (l : List V) (n i : Nat) (v : V), fnd (enum n l) i = some v → n ≤ i ∧ l[i - n]? = some v
  | [], n, i, v, h => by simp [enum, fnd] at h
  | u :: l, n, i, v, h => by
    simp only [enum, fnd] at h
    split at h
    · rename_i e
      simp only [beq_iff_eq] at e
      subst e
      simp only [Option.some.injEq] at h
      subst h
      simp
    · rename_i e
      simp only [beq_iff_eq] at e
      obtain ⟨h1, h2⟩ := fnd_enum l (n + 1) i v h
      refine ⟨by omega, ?_⟩
      obtain ⟨m, rfl⟩ : ∃ m, i = n + 1 + m := ⟨i - (n + 1), by omega⟩
      rw [show n + 1 + m - n = m + 1 by omega]
      rw [show n + 1 + m - (n + 1) = m by omega] at h2
      simpa using h2
section
variable {c : Cx} {s : S} {o : Oper} {g : Nat → Nat × Nat} {a : Act} {w : World}
theorem VRep.repure {v : V} {x : Value} {q : Nat → Prop} {g' : Nat → Nat × Nat} (h : VRep w q g v x) (hv : v.pure) : VRep w q g' v x :=
  h.mono Cells.rfl (fun _ h _ => h) (fun r hr => by rw [hv r] at hr; cases hr)
def resSem (tmps : Array Value) : ResultVar → Sem Value
  | .tmp t => Pure.pure (tmps.getD t undef)
  | .cell p t => do loadVar t (← asAddr (tmps.getD p undef))
theorem run_resOne (hs : Sim c g s a w) {r : ResultVar} {v : V} (h : resOne c.P s r v) :
    ∃ x, VRep w (qt c s.H g) g v x ∧ (resSem a.tmps r).run c.P w = .ok x w := by
  cases r with
  | tmp t =>
    simp only [resOne] at h
    obtain ⟨x, h1, h2⟩ := hs.tmp t v h
    refine ⟨x, h2, ?_⟩
    simp [resSem, Array.getD_eq_getD_getElem?, h1]
  | cell p ty =>
    simp only [resOne] at h
    obtain ⟨r, k, row, d, h1, h2, hn, hu, h3⟩ := h
    obtain ⟨y, h4, h5⟩ := hs.tmp p _ h1
    cases h5
    have hp : a.tmps.getD p undef = .pointer (some ⟨(g r).1, k, none⟩) := by simp [Array.getD_eq_getD_getElem?, h4]
    obtain ⟨arr, h6, _, h7⟩ := hs.obj r row h2 hn
    rcases h3 with ⟨hd, hv⟩ | ⟨hd, sz, bt, z, l, hi, hl, hlen, rfl⟩
    · obtain ⟨x, h8, h9⟩ := h7 k v hv
      refine ⟨x, h9, ?_⟩
      have hcell : w.cell? ⟨(g r).1, k, none⟩ = some x := (cell_of_row w _ _ _ _ _ h6).trans h8
      simp only [resSem, hp]
      simp [asAddr, loadVar, run_isAgg hu, hd, hcell]
    · have hat : ∀ (j : Nat) (u : V), l[j]? = some u → row.cells[k + j]? = some u := by
        intro j u hu
        rw [← hl, List.getElem?_take] at hu
        split at hu
        · simpa using hu
        · cases hu
      have hrun := run_loadVar_agg (P := c.P) (w := w) (b := (g r).1) (o := k) (cs := (List.range sz).map fun j => arr.getD (k + j) undef) hu hd hi (by simp) (by
        intro j v hj
        have hjs : j < sz := by simpa using (List.getElem?_eq_some_iff.1 hj).1
        simp only [List.getElem?_map, List.getElem?_range hjs, Option.map_some, Option.some.injEq] at hj
        obtain ⟨y', h3, h4⟩ := h7 _ l[j] (hat j l[j] (List.getElem?_eq_getElem (by omega)))
        rw [Array.getD_eq_getD_getElem?, h3] at hj
        simp only [Option.getD_some] at hj
        subst hj
        exact (cell_of_row w _ _ _ _ _ h6).trans h3)
      refine ⟨_, .agg l ((List.range sz).map fun j => arr.getD (k + j) undef) (by simp [hlen]) ?_, ?_⟩
      · intro j u y hj hy
        obtain ⟨y', h3, h4⟩ := h7 _ u (hat j u hj)
        have hjs : j < sz := by rw [← hlen]; exact (List.getElem?_eq_some_iff.1 hj).1
        simp only [List.getElem?_map, List.getElem?_range hjs, Option.map_some, Option.some.injEq] at hy
        rw [Array.getD_eq_getD_getElem?, h3] at hy
        simp only [Option.getD_some] at hy
        subst hy
        exact h4
      · simp only [resSem, hp]
        simp [asAddr, hrun]
theorem run_resL (hs : Sim c g s a w) : ∀ (rs : List ResultVar) (vs : List V), resL c.P s rs vs →
    ∃ xs : List Value, VReps w (qt c s.H g) g vs xs ∧ (rs.mapM (resSem a.tmps)).run c.P w = .ok xs w
  | [], [], _ => ⟨[], ⟨rfl, by simp⟩, rfl⟩
  | [], _ :: _, h => h.elim
  | _ :: _, [], h => h.elim
  | r :: rs, v :: vs, h => by
    obtain ⟨x, h1, h2⟩ := run_resOne hs h.1
    obtain ⟨xs, h3, h4⟩ := run_resL hs rs vs h.2
    refine ⟨x :: xs, ⟨by simp [h3.1], fun j u y hu hy => ?_⟩, ?_⟩
    · cases j with
      | zero => simp at hu hy; subst hu hy; exact h1
      | succ j => exact h3.2 j u y (by simpa using hu) (by simpa using hy)
    · simp only [List.mapM_cons, Sem.run_bind, h2, Result.andThen_ok, h4]
      rfl
theorem run_results {fn : Func} {rs : List ResultVar} {vs : List V} (hr : fn.results = rs.toArray) (hs : Sim c g s a w) (h : resL c.P s rs vs) : ∃ x, VRep w (qt c s.H g) g (tupOf vs) x ∧ (results fn a.tmps).run c.P w = .ok x w := by
  obtain ⟨xs, ⟨h1, h2⟩, h3⟩ := run_resL hs rs vs h
  have hm : (results fn a.tmps).run c.P w = .ok (if h : xs.toArray.size = 1 then xs.toArray[0] else .tuple xs.toArray) w := by
    have h4 : results fn a.tmps = (do let vs ← fn.results.mapM (resSem a.tmps); pure (if h : vs.size = 1 then vs[0] else .tuple vs)) := by
      unfold results
      congr 2
    rw [h4]
    simp only [hr, Sem.run_bind, Array.mapM_eq_mapM_toList, List.toList_toArray, Sem.run_map, h3, Result.andThen_ok]
    simp
  match vs, xs, h1, h2, hm with
  | [v], [x], _, h2, hm => exact ⟨x, h2 0 v x rfl rfl, by rw [hm]; rfl⟩
  | [], [], _, h2, hm => exact ⟨_, .tup [] [] rfl (by simp), by rw [hm]; rfl⟩
  | v :: v' :: vs, x :: x' :: xs, h1, h2, hm => exact ⟨_, .tup _ (x :: x' :: xs) h1 h2, by rw [hm]; simp⟩
  | [v], [], h1, _, _ => simp at h1
  | [v], _ :: _ :: _, h1, _, _ => simp at h1
  | [], _ :: _, h1, _, _ => simp at h1
  | _ :: _ :: _, [], h1, _, _ => simp at h1
  | _ :: _ :: _, [_], h1, _, _ => simp at h1
theorem enter_get {xs : List Value} {n j : Nat} {x : Value} (hx : xs[j]? = some x) (hn : xs.length ≤ n) : (xs.toArray ++ Array.replicate (n - xs.toArray.size) undef)[j]? = some x := by
  have hj : j < xs.length := (List.getElem?_eq_some_iff.1 hx).1
  rw [Array.getElem?_append_left (by simpa using hj)]
  simpa using hx
/-- A function, from its body. -/
theorem Fn.intro {P : Program} {f : FuncId} {fn : Func} {code : Code} {n : Nat} {rs : List ResultVar} {args : List V} {post : V → Prop} (hf : Is P f fn code n rs) (hp : ∀ v ∈ args, v.pure) (hn : args.length ≤ n)
    (h : ∀ w0 out, AW ⟨P, w0, out, [], []⟩ code (QF P rs post) ⟨n, enum 0 args, [], []⟩) : Fn P f args post := by
  intro w out g xs hout hx
  refine calls_of_wp hf.func hf.body ?_
  have hs : Sim ⟨P, w, out, [], []⟩ g ⟨n, enum 0 args, [], []⟩ { tmps := xs.toArray ++ Array.replicate (fn.ntmps - xs.toArray.size) undef, defers := [] } w := by
    refine ⟨?_, rfl, ?_, by simp [fnd], by simp [fnd], by simp, by simp [fnd], by simp [fnd], hout, Below.refl _ _⟩
    · simp [hf.ntmps, ← hx.1]; omega
    · intro i v hv
      obtain ⟨_, h2⟩ := fnd_enum args 0 i v hv
      simp only [Nat.sub_zero] at h2
      have hi : i < xs.length := by rw [← hx.1]; exact (List.getElem?_eq_some_iff.1 h2).1
      refine ⟨xs[i], ?_, ?_⟩
      · rw [hf.ntmps]
        exact enter_get (List.getElem?_eq_getElem hi) (by rw [← hx.1]; exact hn)
      · refine (hx.2 i v _ h2 (List.getElem?_eq_getElem hi)).mono Cells.rfl (fun b hb _ => ⟨hb, by simp [fnd]⟩) (fun r _ => rfl)
  refine wp_mono (h w out g _ w hs) fun e a' w' hq => ?_
  obtain ⟨g', s', h1, h2⟩ := hq
  have fin : (∃ vs, resL P s' rs vs ∧ post (tupOf vs) ∧ (tupOf vs).pure) → a'.defers = [] ∧ ∃ v, (results fn a'.tmps).run P w' = .ok v w' ∧ ∃ v_1 x, Ending.returned v = .returned x ∧ post v_1 ∧ v_1.pure ∧ VRep w' (fun b => ¬ out b) g v_1 x ∧ Below w.heap.size w w' := by
    rintro ⟨vs, k1, k2, k3⟩
    obtain ⟨x, k4, k5⟩ := run_results (c := ⟨P, w, out, [], []⟩) hf.results h2 k1
    exact ⟨h2.defers, x, k5, _, x, rfl, k2, k3, (k4.repure k3).mono Cells.rfl (fun b hb _ => hb.1) (fun r _ => rfl), h2.below⟩
  cases e with
  | normal => exact fin h1
  | ret => exact fin h1
  | _ => exact h1.elim
theorem exec_call {ρ : Operand → Value} {fx : Operand} {xs : Array Operand} {ts : Array TypeId} {f : FuncId} {caps : List Value} {fn : Func} {code : Code} {n : Nat} {rs : List ResultVar} (hf : Is c.P f fn code n rs) (ho : o.op = .call { callee := .value fx, args := xs, argTypes := ts })
    (hfx : ρ fx = .func (.func f) #[] caps.toArray) : (execOp ρ o).run c.P w = .ok (.enter f ((xs.toList.map ρ) ++ caps).toArray) w := by
  have hb : fn.body.isNone = false := by rw [hf.body]; rfl
  have hn := hf.name
  simp only [execOp, ho, resolve, Deferred.ofValue, hfx, invoke, callFunc, Sem.run_bind, Sem.run_pure, Result.andThen_ok]
  have hb' : ¬ fn.body = none := by rw [hf.body]; simp
  simp [Sem.run, hf.func, hn, hb, program]
  simp at hn
  rw [if_neg hn, if_neg hb']
  simp [← Array.toList_map]
/-- A call of a function that changes nothing. -/
theorem sm_call {fx : Operand} {xs : Array Operand} {ts : Array TypeId} {f : FuncId} {fn : Func} {code : Code} {n : Nat} {rs : List ResultVar} {args : List V} {post : V → Prop} (hfn : Fn c.P f args post) (hf : Is c.P f fn code n rs) (ho : o.op = .call { callee := .value fx, args := xs, argTypes := ts })
    (hfx : s.ev fx = some (.fn f [])) (hargs : xs.toList.map s.ev = args.map some) (hd : dok s o = true) : StepM c o s (fun s' => ∃ v, post v ∧ v.pure ∧ s' = s.put o.dst v) := by
  intro g a w hs K Q hK
  have hfx' : a.eval fx = .func (.func f) #[] ([] : List Value).toArray := by
    have h := hs.ev hfx
    generalize a.eval fx = u at h
    cases h with
    | fn _ _ cs hl _ =>
      obtain rfl : cs = [] := by cases cs with | nil => rfl | cons => simp at hl
      rfl
  have hx : VReps w (fun b => ¬ ¬ qt c s.H g b) g args (xs.toList.map a.eval) := by
    refine ⟨by simpa using (congrArg List.length hargs).symm, fun j u y hu hy => ?_⟩
    have h1 := congrArg (fun l => l[j]?) hargs
    simp only [List.getElem?_map, hu, Option.map_some] at h1 hy
    cases h2 : xs.toList[j]? with
    | none => rw [h2] at h1; cases h1
    | some p =>
      rw [h2] at h1 hy
      simp only [Option.map_some, Option.some.injEq] at h1 hy
      subst hy
      exact (hs.ev h1).mono Cells.rfl (fun b hb _ => not_not_intro hb) (fun r _ => rfl)
  unfold Oper.wp
  rw [exec_call (caps := []) hf ho hfx']
  simp only [Oper.upon, List.append_nil]
  refine (hfn w (fun b => ¬ qt c s.H g b) g _ ?_ hx).mono ?_
  · intro b hb
    rcases Classical.em (c.out b) with h | h
    · exact Nat.lt_of_lt_of_le (hs.low b h) hs.below.size
    · rcases Classical.em (∃ r row, fnd s.H r = some row ∧ row.nil = false ∧ (g r).1 = b) with ⟨r, row, h1, h2, rfl⟩ | h'
      · obtain ⟨arr, h3, _⟩ := hs.obj r row h1 h2
        exact (Array.getElem?_eq_some_iff.1 h3).1
      · exact absurd ⟨h, fun r row h1 h2 h3 => h' ⟨r, row, h1, h2, h3⟩⟩ hb
  · rintro e w' ⟨v, x, rfl, h1, h2, h3, h4⟩
    refine hK g _ _ _ ⟨v, h1, h2, rfl⟩ ((hs.move h4).put o.dst (dok_spec hd) ?_) h4
    exact h3.mono Cells.rfl (fun b hb _ => Classical.not_not.1 hb) (fun r _ => rfl)
end
section
variable {c : Cx} {s : S} {o : Oper} {α : Type}
theorem rp_b {b b' : Bool} (h : RP c o s (.b b)) (e : b = b') : RP c o s (.b b') := by subst e; exact h
theorem rp_eqlT {t t' : TypeId} {x y : Operand} {k : IntKind} {m n : Int} (ho : o.op = .binOp .eql t x y t') (hx : s.ev x = some (.d (.p (.int k m)))) (hy : s.ev y = some (.d (.p (.int k n)))) (h : m = n) : RP c o s (.b true) := rp_b (rp_eql ho hx hy) (by simp [h])
theorem rp_eqlF {t t' : TypeId} {x y : Operand} {k : IntKind} {m n : Int} (ho : o.op = .binOp .eql t x y t') (hx : s.ev x = some (.d (.p (.int k m)))) (hy : s.ev y = some (.d (.p (.int k n)))) (h : ¬ m = n) : RP c o s (.b false) := rp_b (rp_eql ho hx hy) (by simp [h])
theorem rp_neqT {t t' : TypeId} {x y : Operand} {k : IntKind} {m n : Int} (ho : o.op = .binOp .neq t x y t') (hx : s.ev x = some (.d (.p (.int k m)))) (hy : s.ev y = some (.d (.p (.int k n)))) (h : ¬ m = n) : RP c o s (.b true) := rp_b (rp_neq ho hx hy) (by simp [h])
theorem rp_neqF {t t' : TypeId} {x y : Operand} {k : IntKind} {m n : Int} (ho : o.op = .binOp .neq t x y t') (hx : s.ev x = some (.d (.p (.int k m)))) (hy : s.ev y = some (.d (.p (.int k n)))) (h : m = n) : RP c o s (.b false) := rp_b (rp_neq ho hx hy) (by simp [h])
theorem rp_lssT {t t' : TypeId} {x y : Operand} {k : IntKind} {m n : Int} (ho : o.op = .binOp .lss t x y t') (hx : s.ev x = some (.d (.p (.int k m)))) (hy : s.ev y = some (.d (.p (.int k n)))) (h : m < n) : RP c o s (.b true) := rp_b (rp_lss ho hx hy) (by simp [h])
theorem rp_lssF {t t' : TypeId} {x y : Operand} {k : IntKind} {m n : Int} (ho : o.op = .binOp .lss t x y t') (hx : s.ev x = some (.d (.p (.int k m)))) (hy : s.ev y = some (.d (.p (.int k n)))) (h : ¬ m < n) : RP c o s (.b false) := rp_b (rp_lss ho hx hy) (by simpa using h)
theorem rp_leqT {t t' : TypeId} {x y : Operand} {k : IntKind} {m n : Int} (ho : o.op = .binOp .leq t x y t') (hx : s.ev x = some (.d (.p (.int k m)))) (hy : s.ev y = some (.d (.p (.int k n)))) (h : m ≤ n) : RP c o s (.b true) := rp_b (rp_leq ho hx hy) (by simp [h])
theorem rp_leqF {t t' : TypeId} {x y : Operand} {k : IntKind} {m n : Int} (ho : o.op = .binOp .leq t x y t') (hx : s.ev x = some (.d (.p (.int k m)))) (hy : s.ev y = some (.d (.p (.int k n)))) (h : ¬ m ≤ n) : RP c o s (.b false) := rp_b (rp_leq ho hx hy) (by simpa using h)
theorem rp_gtrT {t t' : TypeId} {x y : Operand} {k : IntKind} {m n : Int} (ho : o.op = .binOp .gtr t x y t') (hx : s.ev x = some (.d (.p (.int k m)))) (hy : s.ev y = some (.d (.p (.int k n)))) (h : n < m) : RP c o s (.b true) := rp_b (rp_gtr ho hx hy) (by simp [h])
theorem rp_gtrF {t t' : TypeId} {x y : Operand} {k : IntKind} {m n : Int} (ho : o.op = .binOp .gtr t x y t') (hx : s.ev x = some (.d (.p (.int k m)))) (hy : s.ev y = some (.d (.p (.int k n)))) (h : ¬ n < m) : RP c o s (.b false) := rp_b (rp_gtr ho hx hy) (by simpa using h)
theorem rp_geqT {t t' : TypeId} {x y : Operand} {k : IntKind} {m n : Int} (ho : o.op = .binOp .geq t x y t') (hx : s.ev x = some (.d (.p (.int k m)))) (hy : s.ev y = some (.d (.p (.int k n)))) (h : n ≤ m) : RP c o s (.b true) := rp_b (rp_geq ho hx hy) (by simp [h])
theorem rp_geqF {t t' : TypeId} {x y : Operand} {k : IntKind} {m n : Int} (ho : o.op = .binOp .geq t x y t') (hx : s.ev x = some (.d (.p (.int k m)))) (hy : s.ev y = some (.d (.p (.int k n)))) (h : ¬ n ≤ m) : RP c o s (.b false) := rp_b (rp_geq ho hx hy) (by simpa using h)
theorem Fn.decT {P : Program} {f : FuncId} {args : List V} {p : Prop} [Decidable p] (h : Fn P f args (fun v => v = .b (decide p))) (hp : p) : Fn P f args (fun v => v = .b true) := h.mono fun v hv => by rw [hv, decide_eq_true hp]
theorem Fn.decF {P : Program} {f : FuncId} {args : List V} {p : Prop} [Decidable p] (h : Fn P f args (fun v => v = .b (decide p))) (hp : ¬ p) : Fn P f args (fun v => v = .b false) := h.mono fun v hv => by rw [hv, decide_eq_false hp]
theorem AW.condT {Q : Exit → S → Prop} {x : Operand} {t e : Code} (hc : s.ev x = some (.b true)) (h : AW c t Q s) : AW c (.cond x t e) Q s := AW.cond hc (fun _ => h) (fun h' => by cases h')
theorem AW.condF {Q : Exit → S → Prop} {x : Operand} {t e : Code} (hc : s.ev x = some (.b false)) (h : AW c e Q s) : AW c (.cond x t e) Q s := AW.cond hc (fun h' => by cases h') (fun _ => h)
/-- An element of a slice that is told by a list. -/
theorem rp_index_map {t e : TypeId} {x i : Operand} {sz bt bt' k : Nat} {z : Value} {l : List α} {f : α → List D} {y : α} {n' : Int} {kd : IntKind} (hu : c.P.underlying t = some (.slice e)) (hi : Inf c.P e sz bt z) (ho : o.op = .indexAddr t x i) (hx : s.ev x = some (.d (.sl sz bt' (l.map f)))) (hy : s.ev i = some (.d (.p (.int kd n'))))
    (hk : n' = (k : Int)) (hl : l[k]? = some y) : RP c o s (.ad (f y)) := rd_index_sl hu hi ho hx hy hk (by simp [hl])
theorem rp_len_map {t e : TypeId} {x : Operand} {sz bt' n : Nat} {l : List α} {f : α → List D} (hu : c.P.underlying t = some (.slice e)) (ho : o.op = .call { callee := .builtin .len, args := #[x], argTypes := #[t] }) (hx : s.ev x = some (.d (.sl sz bt' (l.map f)))) (hl : l.length = n) : RP c o s (.i (n : Int)) := by
  have := rp_len_sl hu ho hx
  rwa [List.length_map, hl] at this
/-- A cell of an object that is told by a list. -/
theorem rd_load_map {t : TypeId} {d : TypeDesc} {x : Operand} {r k : Nat} {row : Row} {l : List α} {f : α → V} {y : α} (hu : c.P.underlying t = some d) (hd : isAggD d = false) (ho : o.op = .load t x) (hx : s.ev x = some (.ref r (k * 1))) (hr : fnd s.H r = some row) (hn : row.nil = false) (hf : row.cells = l.map f) (hl : l[k]? = some y) : RD c o s (f y) :=
  rd_load_ref hu hd ho hx hr hn (by rw [hf]; simp [hl])
theorem st_store_map {t : TypeId} {bt : Nat} {z : Value} {x y : Operand} {r k : Nat} {row : Row} {l : List α} {f : α → V} {v : α} (hi : Inf c.P t 1 bt z) (ho : o.op = .store t x y) (hd : o.dst = none) (hx : s.ev x = some (.ref r (k * 1))) (hy : s.ev y = some (f v)) (hr : fnd s.H r = some row) (hn : row.nil = false)
    (hf : row.cells = l.map f) (hok : (f v).one = true) (hfit : k < l.length) : Step c o s (fun s' => s' = { s with H := (r, { row with cells := (l.set k v).map f }) :: s.H }) :=
  st_store hi ho hd hx hy hr hn hok (by rw [hf]; simpa using hfit) (by rw [hf, List.map_set, Nat.mul_one])
/-- make, told by a list. -/
theorem sm_make_map (r : Nat) {t e : TypeId} {bt n : Nat} {z : Value} {x : Operand} {n' : Int} (f : α → V) (z' : α) (hu : c.P.underlying t = some (.slice e)) (hi : Inf c.P e 1 bt z) (hz : z.oneCell' = true) (hzf : V.d (.p z) = f z') (ho : o.op = .makeSlice t x x) (hx : s.ev x = some (.i n')) (hn : n' = (n : Int)) (hb : n ≤ 1000000) (hbt : bt ≤ 64) (hr : s.clean r = true) (hd : dok s o = true) :
    StepM c o s (fun s' => s' = s.newObj r ⟨e, (List.replicate n z').map f, false, 1⟩ o.dst (.own r 1 n false)) := by
  rw [List.map_replicate, ← hzf]
  exact sm_make1 r hu hi hz ho hx hn hb hbt hr hd
theorem AW.bound {Q : Exit → S → Prop} {code : Code} (x : Operand) {sz bt : Nat} {rows : List (List D)} (hx : s.ev x = some (.d (.sl sz bt rows))) (h : rows.length * bt ≤ 140737488355328 → AW c code Q s) : AW c code Q s := fun g a w hs => by
  have hv := hs.ev hx
  generalize a.eval x = y at hv
  cases hv with
  | d _ _ hd =>
    cases hd with
    | sl _ _ _ _ _ _ _ _ _ _ hl => exact h hl g a w hs
theorem Wk.eq {v u : V} (h : v = u) : Wk v u := by subst h; exact .refl _
def LT (s : S) : List (Nat × V) → Prop
  | [] => True
  | (i, v) :: r => (∃ u, fnd s.T i = some u ∧ Wk v u) ∧ LT s r
def LH (s : S) : List (Nat × Row) → Prop
  | [] => True
  | (i, row) :: r => fnd s.H i = some row ∧ LH s r
theorem LT.get {s : S} : ∀ {l : List (Nat × V)}, LT s l → ∀ (i : Nat) (v : V), fnd l i = some v → ∃ u, fnd s.T i = some u ∧ Wk v u
  | [], _, i, v, h => by simp [fnd] at h
  | (k, u) :: r, hl, i, v, h => by
    simp only [fnd] at h
    split at h
    · rename_i e
      simp only [beq_iff_eq] at e
      subst e
      simp only [Option.some.injEq] at h
      subst h
      exact hl.1
    · exact LT.get hl.2 i v h
theorem LH.get {s : S} : ∀ {l : List (Nat × Row)}, LH s l → ∀ (i : Nat) (v : Row), fnd l i = some v → fnd s.H i = some v
  | [], _, i, v, h => by simp [fnd] at h
  | (k, u) :: r, hl, i, v, h => by
    simp only [fnd] at h
    split at h
    · rename_i e
      simp only [beq_iff_eq] at e
      subst e
      simp only [Option.some.injEq] at h
      subst h
      exact hl.1
    · exact LH.get hl.2 i v h
theorem Less.of {s' s : S} (hn : s'.n = s.n) (hT : LT s s'.T) (hH : LH s s'.H) (hK : s'.K = s.K) : Less s' s :=
  ⟨hn, fun i v h => hT.get i v h, fun r row h => ⟨row, hH.get r row h, rfl, rfl, rfl, fun j v hv => ⟨v, hv, .refl _⟩⟩, fun j v h => ⟨v, by rw [← hK]; exact h, .refl _⟩⟩
/-- The number in a temporary. -/
def S.nat (s : S) (t : Nat) : Nat :=
  match fnd s.T t with
  | some (.d (.p (.int _ n))) => n.toNat
  | _ => 0
@[simp] theorem hasL_d (r : Nat) (l : List α) (f : α → D) : V.hasL r (l.map (fun x => V.d (f x))) = false := by simp [V.hasL_false, V.has]
@[simp] theorem hasL_i (r : Nat) (l : List Int) : V.hasL r (l.map V.i) = false := by simp [V.hasL_false, V.has]
@[simp] theorem hasL_b (r : Nat) (l : List Bool) : V.hasL r (l.map V.b) = false := by simp [V.hasL_false, V.has]
@[simp] theorem hasL_s (r : Nat) (l : List ByteArray) : V.hasL r (l.map V.s) = false := by simp [V.hasL_false, V.has]
abbrev V.n (x : Nat) : V := V.i (x : Int)
@[simp] theorem hasL_n (r : Nat) (l : List Nat) : V.hasL r (l.map V.n) = false := by simp [V.hasL_false, V.has]
@[simp] theorem hasL_rep (r n : Nat) (x : D) : V.hasL r (List.replicate n (V.d x)) = false := by simp [V.hasL_false, V.has]
theorem AL.sm {Q : Exit → S → Prop} {ops : Array Oper} {rest : List Oper} {X : S} (hg : o.guard = none) (h : StepM c o s (fun s' => s' = X)) (hN : AL c ops rest Q X) : AL c ops (o :: rest) Q s :=
  AL.stepM hg fun g a w hs K Q' hK => h g a w hs K Q' fun g' s' a' w' e h1 h2 => hK g' s' a' w' (by subst e; exact hN) h1 h2
theorem AL.st {Q : Exit → S → Prop} {ops : Array Oper} {rest : List Oper} {X : S} (hg : o.guard = none) (h : Step c o s (fun s' => s' = X)) (hN : AL c ops rest Q X) : AL c ops (o :: rest) Q s :=
  AL.step hg fun g a w hs K Q' hK => h g a w hs K Q' fun g' s' a' w' e h1 => hK g' s' a' w' (by subst e; exact hN) h1
theorem AL.call {Q : Exit → S → Prop} {ops : Array Oper} {rest : List Oper} {post : V → Prop} (hg : o.guard = none) (h : StepM c o s (fun s' => ∃ v, post v ∧ v.pure ∧ s' = s.put o.dst v)) (hN : ∀ v, post v → v.pure → AL c ops rest Q (s.put o.dst v)) : AL c ops (o :: rest) Q s :=
  AL.stepM hg fun g a w hs K Q' hK => h g a w hs K Q' fun g' s' a' w' ⟨v, h1, h2, e⟩ h3 h4 => hK g' s' a' w' (by subst e; exact hN v h1 h2) h3 h4
theorem AL.cally {Q : Exit → S → Prop} {ops : Array Oper} {rest : List Oper} {post : V → Prop} {j : Nat} {b : Bool} (hg : o.guard = some (j, b)) (hy : yld ops s j = some b) (h : StepM c o s (fun s' => ∃ v, post v ∧ v.pure ∧ s' = s.put o.dst v)) (hN : ∀ v, post v → v.pure → AL c ops rest Q (s.put o.dst v)) : AL c ops (o :: rest) Q s :=
  AL.yes hg hy fun g a w hs K Q' hK => h g a w hs K Q' fun g' s' a' w' ⟨v, h1, h2, e⟩ h3 h4 => hK g' s' a' w' (by subst e; exact hN v h1 h2) h3
theorem AL.rdy {Q : Exit → S → Prop} {ops : Array Oper} {rest : List Oper} {v : V} {j : Nat} {b : Bool} (hg : o.guard = some (j, b)) (hy : yld ops s j = some b) (hd : dok s o = true) (h : RD c o s v) (hN : AL c ops rest Q (s.put o.dst v)) : AL c ops (o :: rest) Q s :=
  AL.yes hg hy (h.stepM hd hN).step
theorem AL.rpy {Q : Exit → S → Prop} {ops : Array Oper} {rest : List Oper} {v : V} {j : Nat} {b : Bool} (hg : o.guard = some (j, b)) (hy : yld ops s j = some b) (hd : dok s o = true) (h : RP c o s v) (hN : AL c ops rest Q (s.put o.dst v)) : AL c ops (o :: rest) Q s :=
  AL.rdy hg hy hd h.rd hN
/-- A nil slice becomes one that may grow. -/
theorem AW.adopt {Q : Exit → S → Prop} {code : Code} (t r sz : Nat) (ty : TypeId) (ht : fnd s.T t = some .nil) (hr : s.clean r = true) (h : AW c code Q ⟨s.n, (t, .own r sz 0 true) :: s.T, (r, ⟨ty, [], true, sz⟩) :: s.H, s.K⟩) : AW c code Q s := by
  intro g a w hs
  refine h g a w ?_
  have hq : ∀ b, qt c s.H g b → b < w.heap.size → qt c ((r, (⟨ty, [], true, sz⟩ : Row)) :: s.H) g b := by
    intro b hb _
    refine ⟨hb.1, fun k row hk hn => ?_⟩
    simp only [fnd] at hk
    split at hk
    · simp only [Option.some.injEq] at hk; subst hk; cases hn
    · exact hb.2 k row hk hn
  have hm : ∀ {v x}, VRep w (qt c s.H g) g v x → VRep w (qt c ((r, (⟨ty, [], true, sz⟩ : Row)) :: s.H) g) g v x := fun hv => hv.mono Cells.rfl hq (fun _ _ => rfl)
  have hfn : ∀ k row, fnd ((r, (⟨ty, [], true, sz⟩ : Row)) :: s.H) k = some row → row.nil = false → fnd s.H k = some row := by
    intro k row hk hn
    simp only [fnd] at hk
    split at hk
    · simp only [Option.some.injEq] at hk; subst hk; cases hn
    · exact hk
  refine ⟨hs.size, hs.defers, ?_, ?_, ?_, ?_, ?_, ?_, hs.low, hs.below⟩
  · intro i v hv
    simp only [fnd] at hv
    split at hv
    · rename_i e
      simp only [beq_iff_eq] at e
      subst e
      simp only [Option.some.injEq] at hv
      subst hv
      obtain ⟨x, h1, h2⟩ := hs.tmp _ _ ht
      refine ⟨x, h1, ?_⟩
      rw [VRep.p_eq h2]
      exact .ownNil r sz
    · obtain ⟨x, h1, h2⟩ := hs.tmp i v hv
      exact ⟨x, h1, hm h2⟩
  · intro k row hk hn
    simp only [fnd] at hk
    split at hk
    · simp only [Option.some.injEq] at hk; subst hk; rfl
    · exact hs.nul k row hk hn
  · intro k row hk hn
    obtain ⟨arr, h1, h2, h3⟩ := hs.obj k row (hfn k row hk hn) hn
    refine ⟨arr, h1, h2, fun j v hv => ?_⟩
    obtain ⟨x, h4, h5⟩ := h3 j v hv
    exact ⟨x, h4, hm h5⟩
  · intro j v x h1 h2
    exact hm (hs.keep j v x h1 h2)
  · intro k k' row row' h1 n1 h2 n2 h3
    exact hs.inj k k' row row' (hfn k row h1 n1) n1 (hfn k' row' h2 n2) n2 h3
  · intro k row h1 n1
    exact hs.base k row (hfn k row h1 n1) n1
/-- A slice of the call's own becomes plain data. -/
theorem Sim.freeze {g : Nat → Nat × Nat} {a : Act} {w : World} (hs : Sim c g s a w) {t r sz bt n : Nat} {f : Bool} {row : Row} {rows : List (List D)} (ht : fnd s.T t = some (.own r sz n f)) (hr : fnd s.H r = some row) (hf : row.nil = f) (hlen : rows.length = n) (hn : n * bt ≤ 140737488355328)
    (hrows : ∀ (i j : Nat) (l : List D) (u : D), rows[i]? = some l → l[j]? = some u → row.cells[i * sz + j]? = some (.d u)) : Sim c g ⟨s.n, (t, .d (.sl sz bt rows)) :: s.T, s.H.filter (fun x => x.1 != r), s.K⟩ a w := by
  have hfn : ∀ k row', fnd (s.H.filter (fun x => x.1 != r)) k = some row' → k ≠ r ∧ fnd s.H k = some row' := by
    intro k row' hk
    have e : k ≠ r := by rintro rfl; rw [fnd_filter_self] at hk; cases hk
    rw [fnd_filter r _ _ e] at hk
    exact ⟨e, hk⟩
  have hq : ∀ b, qt c s.H g b → b < w.heap.size → qt c (s.H.filter (fun x => x.1 != r)) g b := fun b hb _ => ⟨hb.1, fun k row' hk hn => hb.2 k row' (hfn k row' hk).2 hn⟩
  have hm : ∀ {v x}, VRep w (qt c s.H g) g v x → VRep w (qt c (s.H.filter (fun x => x.1 != r)) g) g v x := fun hv => hv.mono Cells.rfl hq (fun _ _ => rfl)
  refine ⟨hs.size, hs.defers, ?_, ?_, ?_, ?_, ?_, ?_, hs.low, hs.below⟩
  · intro i v hv
    simp only [fnd] at hv
    split at hv
    · rename_i e
      simp only [beq_iff_eq] at e
      subst e
      simp only [Option.some.injEq] at hv
      subst hv
      obtain ⟨x, h1, h2⟩ := hs.tmp _ _ ht
      refine ⟨x, h1, .d _ _ ?_⟩
      cases h2 with
      | own _ _ _ hle hcap =>
        obtain ⟨arr, h3, _, h4⟩ := hs.obj r row hr hf
        subst hlen
        have hob : ¬ c.out (g r).1 := fun h => by
          have h5 := hs.low _ h
          have h6 := hs.base r row hr hf
          omega
        refine .sl sz bt rows _ _ (g r).1 0 (fun i j => arr.getD (i * sz + j) undef) (by omega) (fun _ => ⟨rfl, ⟨hob, fun k row' hk hkn e => ?_⟩, (Array.getElem?_eq_some_iff.1 h3).1⟩) hn ?_ ?_
        · obtain ⟨k1, k2⟩ := hfn k row' hk
          exact k1 (hs.inj k r _ _ k2 hkn hr hf e)
        · intro i j l u hi hj
          obtain ⟨y, h5, h6⟩ := h4 _ _ (hrows i j l u hi hj)
          rw [Nat.zero_add, cell_of_row w _ _ _ _ _ h3, h5]
          simp [Array.getD_eq_getD_getElem?, h5]
        · intro i j l u hi hj
          obtain ⟨y, h5, h6⟩ := h4 _ _ (hrows i j l u hi hj)
          cases hm h6 with
          | d _ _ h7 => simpa [Array.getD_eq_getD_getElem?, h5] using h7
      | ownNil =>
        have : rows = [] := by simpa using hlen
        subst this
        exact .sl sz bt [] none 0 0 0 (fun _ _ => undef) (Nat.le_refl 0) (fun h => absurd rfl h) (by simp) (by simp) (by simp)
    · obtain ⟨x, h1, h2⟩ := hs.tmp i v hv
      exact ⟨x, h1, hm h2⟩
  · intro k row' hk hn
    exact hs.nul k row' (hfn k row' hk).2 hn
  · intro k row' hk hn
    obtain ⟨arr, h1, h2, h3⟩ := hs.obj k row' (hfn k row' hk).2 hn
    refine ⟨arr, h1, h2, fun j v hv => ?_⟩
    obtain ⟨x, h4, h5⟩ := h3 j v hv
    exact ⟨x, h4, hm h5⟩
  · intro j v x h1 h2
    exact hm (hs.keep j v x h1 h2)
  · intro k k' row row' h1 n1 h2 n2 h3
    exact hs.inj k k' row row' (hfn k row h1).2 n1 (hfn k' row' h2).2 n2 h3
  · intro k row h1 n1
    exact hs.base k row (hfn k row h1).2 n1
theorem AW.freeze {Q : Exit → S → Prop} {code : Code} (t bt : Nat) {r sz n : Nat} {f : Bool} {row : Row} (rows : List (List D)) (ht : fnd s.T t = some (.own r sz n f)) (hr : fnd s.H r = some row) (hf : row.nil = f) (hlen : rows.length = n) (hn : n * bt ≤ 140737488355328)
    (hrows : ∀ (i j : Nat) (l : List D) (u : D), rows[i]? = some l → l[j]? = some u → row.cells[i * sz + j]? = some (.d u)) (h : AW c code Q ⟨s.n, (t, .d (.sl sz bt rows)) :: s.T, s.H.filter (fun x => x.1 != r), s.K⟩) : AW c code Q s :=
  fun g a w hs => h g a w (hs.freeze ht hr hf hlen hn hrows)
theorem AL.freeze {Q : Exit → S → Prop} {ops : Array Oper} {l' : List Oper} (t bt : Nat) {r sz n : Nat} {f : Bool} {row : Row} (rows : List (List D)) (ht : fnd s.T t = some (.own r sz n f)) (hr : fnd s.H r = some row) (hf : row.nil = f) (hlen : rows.length = n) (hn : n * bt ≤ 140737488355328)
    (hrows : ∀ (i j : Nat) (l : List D) (u : D), rows[i]? = some l → l[j]? = some u → row.cells[i * sz + j]? = some (.d u)) (h : AL c ops l' Q ⟨s.n, (t, .d (.sl sz bt rows)) :: s.T, s.H.filter (fun x => x.1 != r), s.K⟩) : AL c ops l' Q s :=
  fun g a w hs => h g a w (hs.freeze ht hr hf hlen hn hrows)
theorem rows1 {l : List α} {f : α → D} {cells : List V} (h : cells = l.map (fun x => V.d (f x))) : ∀ (i j : Nat) (l' : List D) (u : D), (l.map (fun x => [f x]))[i]? = some l' → l'[j]? = some u → cells[i * 1 + j]? = some (.d u) := by
  intro i j l' u h1 h2
  rw [List.getElem?_map] at h1
  cases h3 : l[i]? with
  | none => rw [h3] at h1; cases h1
  | some x =>
    rw [h3] at h1
    simp only [Option.map_some, Option.some.injEq] at h1
    subst h1
    match j, h2 with
    | 0, h2 =>
      simp only [List.getElem?_cons_zero, Option.some.injEq] at h2
      subst h2 h
      simp [h3]
    | n + 1, h2 => simp at h2
end
theorem fnd_zip : ∀ (l : List Nat) (vs : List V) (i : Nat) (v : V), fnd (l.zip vs) i = some v → ∃ j : Nat, l[j]? = some i ∧ vs[j]? = some v
  | [], vs, i, v, h => by simp [fnd] at h
  | k :: l, [], i, v, h => by simp [fnd] at h
  | k :: l, u :: vs, i, v, h => by
    simp only [List.zip_cons_cons, fnd] at h
    split at h
    · rename_i e
      simp only [beq_iff_eq] at e
      subst e
      simp only [Option.some.injEq] at h
      subst h
      exact ⟨0, rfl, rfl⟩
    · obtain ⟨j, h1, h2⟩ := fnd_zip l vs i v h
      exact ⟨j + 1, by simpa using h1, by simpa using h2⟩
/-- How the caller goes on: l, its temporaries that it has kept. -/
def QI (P : Program) (rs : List ResultVar) (n : Nat) (l : List Nat) (d : Option Tmp) (N : S → Prop) : Exit → S → Prop
  | .normal, s => ∃ vs, resL P s rs vs ∧ N (S.put ⟨n, l.zip s.K, s.H, s.K.drop l.length⟩ d (tupOf vs))
  | .ret, s => ∃ vs, resL P s rs vs ∧ N (S.put ⟨n, l.zip s.K, s.H, s.K.drop l.length⟩ d (tupOf vs))
  | _, _ => False
section
variable {c : Cx} {s : S} {o : Oper}
theorem st_inline (l : List Nat) {ts : List V} {fx : Operand} {xs : Array Operand} {tys : Array TypeId} {f : FuncId} {caps : List V} {fn : Func} {code : Code} {n : Nat} {rs : List ResultVar} {ars : List V} {N : S → Prop} (hts : l.map (fun i => fnd s.T i) = ts.map some) (hf : Is c.P f fn code n rs)
    (ho : o.op = .call { callee := .value fx, args := xs, argTypes := tys }) (hfx : s.ev fx = some (.fn f caps)) (hargs : xs.toList.map s.ev = ars.map some) (hn : ars.length + caps.length ≤ n) (hd : dok s o = true)
    (h : ∀ kx, AW ⟨c.P, c.w0, c.out, kx, []⟩ code (QI c.P rs s.n l o.dst N) ⟨n, enum 0 (ars ++ caps), s.H, ts ++ s.K⟩) : Step c o s N := by
  intro g a w hs K Q hK
  have hfv := hs.ev hfx
  obtain ⟨cs, hfx', hcl, hcr⟩ : ∃ cs : List Value, a.eval fx = .func (.func f) #[] cs.toArray ∧ caps.length = cs.length ∧ ∀ (j : Nat) (u : V) (y : Value), caps[j]? = some u → cs[j]? = some y → VRep w (qt c s.H g) g u y := by
    generalize a.eval fx = u at hfv
    cases hfv with
    | fn _ _ cs hl h => exact ⟨cs, rfl, hl, h⟩
  have harl : ars.length = xs.toList.length := by simpa using (congrArg List.length hargs).symm
  have harg : ∀ (j : Nat) (u : V) (y : Value), ars[j]? = some u → (xs.toList.map a.eval)[j]? = some y → VRep w (qt c s.H g) g u y := by
    intro j u y hu hy
    have h1 := congrArg (fun l => l[j]?) hargs
    simp only [List.getElem?_map, hu, Option.map_some] at h1 hy
    cases h2 : xs.toList[j]? with
    | none => rw [h2] at h1; cases h1
    | some p =>
      rw [h2] at h1 hy
      simp only [Option.map_some, Option.some.injEq] at h1 hy
      subst hy
      exact hs.ev h1
  have hll : l.length = ts.length := by simpa using congrArg List.length hts
  have hlt : ∀ (j i : Nat) (v : V), l[j]? = some i → ts[j]? = some v → fnd s.T i = some v := by
    intro j i v h1 h2
    have h3 := congrArg (fun l => l[j]?) hts
    simp only [List.getElem?_map, h1, h2, Option.map_some, Option.some.injEq] at h3
    exact h3
  have hlt' : ∀ (j i : Nat), l[j]? = some i → ∃ v x, ts[j]? = some v ∧ fnd s.T i = some v ∧ a.tmps[i]? = some x ∧ VRep w (qt c s.H g) g v x := by
    intro j i h1
    have hj : j < ts.length := by rw [← hll]; exact (List.getElem?_eq_some_iff.1 h1).1
    have h2 := hlt j i ts[j] h1 (List.getElem?_eq_getElem hj)
    obtain ⟨x, h3, h4⟩ := hs.tmp i _ h2
    exact ⟨_, x, List.getElem?_eq_getElem hj, h2, h3, h4⟩
  have hsim : Sim ⟨c.P, c.w0, c.out, l.map (fun i => a.tmps.getD i undef) ++ c.kx, []⟩ g ⟨n, enum 0 (ars ++ caps), s.H, ts ++ s.K⟩ { tmps := ((xs.toList.map a.eval) ++ cs).toArray ++ Array.replicate (fn.ntmps - ((xs.toList.map a.eval) ++ cs).toArray.size) undef, defers := [] } w := by
    refine ⟨?_, rfl, ?_, hs.nul, hs.obj, ?_, hs.inj, hs.base, hs.low, hs.below⟩
    · simp [hf.ntmps]; simp at harl; omega
    · intro i v hv
      obtain ⟨_, h2⟩ := fnd_enum _ 0 i v hv
      simp only [Nat.sub_zero] at h2
      have hi : i < ((xs.toList.map a.eval) ++ cs).length := by
        have := (List.getElem?_eq_some_iff.1 h2).1
        simp at this harl ⊢; omega
      refine ⟨((xs.toList.map a.eval) ++ cs)[i], ?_, ?_⟩
      · rw [hf.ntmps]
        exact enter_get (List.getElem?_eq_getElem hi) (by simp at harl ⊢; omega)
      · by_cases hia : i < ars.length
        · rw [List.getElem?_append_left hia] at h2
          refine harg i v _ h2 ?_
          have hi' : i < (xs.toList.map a.eval).length := by simp at harl ⊢; omega
          rw [List.getElem_append_left hi']
          exact List.getElem?_eq_getElem hi'
        · rw [List.getElem?_append_right (by omega)] at h2
          refine hcr _ v _ h2 ?_
          have hi' : (xs.toList.map a.eval).length ≤ i := by simp at harl ⊢; omega
          rw [List.getElem_append_right hi']
          have e : (xs.toList.map a.eval).length = ars.length := by simp at harl ⊢; omega
          rw [← List.getElem?_eq_getElem, e]
    · intro j v x h1 h2
      by_cases hj : j < ts.length
      · rw [List.getElem?_append_left hj] at h1
        rw [List.getElem?_append_left (by simp; omega)] at h2
        simp only [List.getElem?_map] at h2
        cases h3 : l[j]? with
        | none => rw [h3] at h2; cases h2
        | some i =>
          rw [h3] at h2
          simp only [Option.map_some, Option.some.injEq] at h2
          obtain ⟨v', x', h4, h5, h6, h7⟩ := hlt' j i h3
          rw [h4] at h1
          simp only [Option.some.injEq] at h1
          subst h1
          have : x = x' := by rw [← h2]; simp [Array.getD_eq_getD_getElem?, h6]
          subst this
          exact h7
      · rw [List.getElem?_append_right (by omega)] at h1
        rw [List.getElem?_append_right (by simp; omega)] at h2
        refine hs.keep (j - ts.length) v x h1 ?_
        simpa [hll] using h2
  unfold Oper.wp
  rw [exec_call (caps := cs) hf ho hfx']
  simp only [Oper.upon]
  refine calls_of_wp hf.func hf.body (wp_mono (h (l.map (fun i => a.tmps.getD i undef) ++ c.kx) g _ w hsim) fun e a1 w1 hq => ?_)
  obtain ⟨g1, s1, h1, h2⟩ := hq
  have fin : (∃ vs, resL c.P s1 rs vs ∧ N (S.put ⟨s.n, l.zip s1.K, s1.H, s1.K.drop l.length⟩ o.dst (tupOf vs))) →
      a1.defers = [] ∧ ∃ v, (results fn a1.tmps).run c.P w1 = .ok v w1 ∧ K (a.put o.dst v) w1 := by
    rintro ⟨vs, k1, k2⟩
    obtain ⟨x, k3, k4⟩ := run_results (c := ⟨c.P, c.w0, c.out, l.map (fun i => a.tmps.getD i undef) ++ c.kx, []⟩) hf.results h2 k1
    refine ⟨h2.defers, x, k4, ?_⟩
    refine hK g1 _ _ _ k2 (Sim.put (s := ⟨s.n, l.zip s1.K, s1.H, s1.K.drop l.length⟩) (c := c) ?_ o.dst (dok_spec (s := s) hd) k3)
    refine ⟨hs.size, hs.defers, ?_, h2.nul, h2.obj, ?_, h2.inj, h2.base, h2.low, h2.below⟩
    · intro i v hv
      obtain ⟨j, h3, h4⟩ := fnd_zip _ _ i v hv
      obtain ⟨v', x', h5, h6, h7, h8⟩ := hlt' j i h3
      refine ⟨x', h7, h2.keep j v x' h4 ?_⟩
      have hj : j < l.length := (List.getElem?_eq_some_iff.1 h3).1
      simp only
      rw [List.getElem?_append_left (by simpa using hj)]
      simp [h3, Array.getD_eq_getD_getElem?, h7]
    · intro j v x h3 h4
      refine h2.keep (l.length + j) v x (by simpa using h3) ?_
      simp only
      rw [List.getElem?_append_right (by simp)]
      simpa using h4
  cases e with
  | normal => exact fin h1
  | ret => exact fin h1
  | _ => exact h1.elim
end
section
variable {P : Program} {ops : Array Oper} {Q : Exit → Act → World → Prop} {md : Region.Mode} {T : World → Prop} {need : Nat → Bool}
/-- What is listed has all it waits for listed. -/
def closedL (md : Region.Mode) (ops : Array Oper) (listed : Array Bool) : Prop := ∀ (j : Nat) (oj : Oper), ops[j]? = some oj → listed.getD j false = true → ∀ e ∈ oj.after, Region.binds md e = true → listed.getD e.on false = true
def reachB (md : Region.Mode) (ops : Array Oper) : Nat → Nat → Nat → Bool
  | 0, _, _ => false
  | n + 1, z, i =>
    match ops[z]? with
    | some oz => oz.after.any fun e => Region.binds md e && (e.on == i || reachB md ops n e.on i)
    | none => false
theorem reach_listed {listed : Array Bool} (hc : closedL md ops listed) {i : Nat} : ∀ (n z : Nat), reachB md ops n z i = true → listed.getD z false = true → listed.getD i false = true
  | 0, z, h, _ => by simp [reachB] at h
  | n + 1, z, h, hz => by
    simp only [reachB] at h
    split at h
    · rename_i oz ho
      obtain ⟨e, he, hb⟩ := Array.any_eq_true'.1 h
      simp only [Bool.and_eq_true, Bool.or_eq_true, beq_iff_eq] at hb
      have h1 := hc z oz ho hz e he hb.1
      rcases hb.2 with h2 | h2
      · rw [← h2]; exact h1
      · exact reach_listed hc n e.on h2 h1
    · cases h
theorem reach_ready {listed : Array Bool} (hc : closedL md ops listed) {n z i : Nat} (h : reachB md ops n z i = true) (hr : z ∈ Region.ready md ops listed) : listed.getD i false = true := by
  obtain ⟨_, oz, ho, hd⟩ := mem_ready.1 hr
  cases n with
  | zero => simp [reachB] at h
  | succ n =>
    simp only [reachB, ho] at h
    obtain ⟨e, he, hb⟩ := Array.any_eq_true'.1 h
    simp only [Bool.and_eq_true, Bool.or_eq_true, beq_iff_eq] at hb
    have h1 := hd e he hb.1
    rcases hb.2 with h2 | h2
    · rw [← h2]; exact h1
    · exact reach_listed hc n e.on h2 h1
theorem getD_set_mono {listed : Array Bool} {i k : Nat} (h : listed.getD k false = true) : (listed.setIfInBounds i true).getD k false = true := by
  rw [Array.getD_eq_getD_getElem?] at h ⊢
  rw [Array.getElem?_setIfInBounds]
  split
  · split
    · rfl
    · rename_i h1 h2
      subst h1
      rw [Array.getElem?_eq_none (by omega)] at h
      cases h
  · exact h
theorem closed_set {listed : Array Bool} (hc : closedL md ops listed) {i : Nat} (hr : i ∈ Region.ready md ops listed) : closedL md ops (listed.setIfInBounds i true) := by
  intro j oj hj hl e he hb
  by_cases hji : j = i
  · subst hji
    obtain ⟨_, oz, ho, hd⟩ := mem_ready.1 hr
    rw [ho] at hj
    simp only [Option.some.injEq] at hj
    subst hj
    exact getD_set_mono (hd e he hb)
  · refine getD_set_mono (hc j oj hj ?_ e he hb)
    rw [Array.getD_eq_getD_getElem?, Array.getElem?_setIfInBounds_ne (Ne.symm hji)] at hl
    rw [Array.getD_eq_getD_getElem?]
    exact hl
def anyN (P : Program) (md : Region.Mode) (ops : Array Oper) (Q : Exit → Act → World → Prop) (T : World → Prop) (need : Nat → Bool) : Nat → Array Bool → Act → World → Prop
  | 0, listed, a, w => Region.ready md ops listed = [] ∧ Q .normal a w
  | n + 1, listed, a, w => (Region.ready md ops listed = [] → Q .normal a w) ∧
      ∀ i ∈ Region.ready md ops listed, wpOp P ops Q i (fun a' w' => (need i = true → T w') ∧ anyN P md ops Q T need n (listed.setIfInBounds i true) a' w') a w
theorem any_of_anyN : ∀ (n : Nat) (listed : Array Bool) (a : Act) (w : World), anyN P md ops Q T need n listed a w → wpAny P md ops Q n listed a w
  | 0, _, _, _, h => h
  | n + 1, _, _, _, h => ⟨h.1, fun i hi => wpOp_mono (fun a' w' h' => any_of_anyN n _ a' w' h'.2) (h.2 i hi)⟩
theorem anyN_early {i N : Nat} {oi : Oper} {v : Value} (hz : ∀ j, j ≠ i → j < ops.size → need j = true ∨ reachB md ops N j i = true) (hi : ops[i]? = some oi) (hsel : ∀ (j : Nat) (o : Oper) cs b, ops[j]? = some o → o.op ≠ .select cs b)
    (hQ : ∀ c a w, Q (.panic c) (a.put oi.dst v) w → Q (.panic c) a w) (n : Nat) :
    ∀ (listed : Array Bool) (a : Act) (w : World), closedL md ops listed →
      (∀ j oj, ops[j]? = some oj → j ≠ i → listed.getD j true = false → (∀ e ∈ oj.after, Region.binds md e = true → e.on ≠ i) → oi.apart ops oj = true) →
      i ∈ Region.ready md ops listed → YieldsIf P ops T oi v a → T w →
      anyN P md ops Q T need n (listed.setIfInBounds i true) (a.put oi.dst v) w → anyN P md ops Q T need (n + 1) listed a w := by
  induction n with
  | zero =>
    intro listed a w hcl hfree hr hy hS H
    refine ⟨fun h => by rw [h] at hr; exact absurd hr List.not_mem_nil, fun j hj => ?_⟩
    by_cases hji : j = i
    · subst hji
      exact hy.wpOp hi hS ⟨fun _ => hS, H⟩
    · have hm := ready_mono hj hji
      rw [H.1] at hm
      exact absurd hm List.not_mem_nil
  | succ n ih =>
    intro listed a w hcl hfree hr hy hS H
    refine ⟨fun h => by rw [h] at hr; exact absurd hr List.not_mem_nil, fun j hj => ?_⟩
    by_cases hji : j = i
    · subst hji
      exact hy.wpOp hi hS ⟨fun _ => hS, H⟩
    · have hij : i ≠ j := fun h => hji h.symm
      have hnext := H.2 j (ready_mono hj hji)
      obtain ⟨hjl, oj, hoj, hdone⟩ := mem_ready.1 hj
      have hil := (mem_ready.1 hr).1
      have hil' : listed.getD i false = false := by
        rw [Array.getD_eq_getD_getElem?] at hil ⊢
        cases hl : listed[i]? with
        | none => rw [hl] at hil; cases hil
        | some b => rw [hl] at hil; exact hil
      have hno : ∀ e ∈ oj.after, Region.binds md e = true → e.on ≠ i := by
        intro e he hb hei
        have hd := hdone e he hb
        rw [hei, hil'] at hd
        cases hd
      have hnj : need j = true := by
        rcases hz j hji (Array.getElem?_eq_some_iff.1 hoj).1 with h | h
        · exact h
        · have := reach_ready hcl h hj
          rw [hil'] at this
          cases this
      have hstep := wpOp_putIf hoj (hfree j oj hoj hji hjl hno) (fun cs b => hsel i oi cs b hi) (fun cs b => hsel j oj cs b hoj) hQ hy hnext
      refine wpOp_mono (fun a' w' h3 => ?_) hstep
      obtain ⟨hy', hS', hrest⟩ := h3
      refine ⟨fun _ => hS' hnj, ih _ a' w' (closed_set hcl hj) ?_ (ready_mono hr hij) hy' (hS' hnj) ?_⟩
      · intro k ok hk hki hkl hkn
        refine hfree k ok hk hki ?_ hkn
        by_cases hjk : j = k
        · subst hjk
          exact hjl
        · rwa [getD_set_ne true hjk] at hkl
      · rw [Array.setIfInBounds_comm _ _ hji]
        exact hrest
/-- The operations in an order of ours: true: a read that may come early. -/
def ASeq (P : Program) (ops : Array Oper) (Q : Exit → Act → World → Prop) (T : World → Prop) (need : Nat → Bool) : List (Nat × Bool) → Act → World → Prop
  | [], a, w => Q .normal a w
  | (i, true) :: r, a, w => ∃ oi x, ops[i]? = some oi ∧ YieldsIf P ops T oi x a ∧ T w ∧ (∀ c a w, Q (.panic c) (a.put oi.dst x) w → Q (.panic c) a w) ∧ ASeq P ops Q T need r (a.put oi.dst x) w
  | (i, false) :: r, a, w => wpOp P ops Q i (fun a' w' => (need i = true → T w') ∧ ASeq P ops Q T need r a' w') a w
def okS (md : Region.Mode) (ops : Array Oper) (need : Nat → Bool) (N : Nat) : List (Nat × Bool) → Array Bool → Bool
  | [], listed => (Region.ready md ops listed).isEmpty
  | (i, true) :: r, listed => (Region.ready md ops listed).contains i && Region.free md ops listed i && ((List.range ops.size).all fun j => j == i || need j || reachB md ops N j i) && okS md ops need N r (listed.setIfInBounds i true)
  | (i, false) :: r, listed => (Region.ready md ops listed == [i]) && okS md ops need N r (listed.setIfInBounds i true)
theorem anyN_of_ASeq {N : Nat} (hsel : Region.noSelect ops = true) : ∀ (l : List (Nat × Bool)) (listed : Array Bool) (a : Act) (w : World), closedL md ops listed → okS md ops need N l listed = true → ASeq P ops Q T need l a w → anyN P md ops Q T need l.length listed a w
  | [], listed, a, w, _, hok, h => ⟨by simpa [okS] using hok, h⟩
  | (i, true) :: r, listed, a, w, hcl, hok, h => by
    simp only [okS, Bool.and_eq_true, List.all_eq_true, List.mem_range, Bool.or_eq_true, beq_iff_eq] at hok
    obtain ⟨⟨⟨h1, h2⟩, h3⟩, h4⟩ := hok
    obtain ⟨oi, x, g1, g2, g3, g4, g5⟩ := h
    have hr : i ∈ Region.ready md ops listed := by simpa using h1
    refine anyN_early (N := N) (fun j hj hlt => ?_) g1 (Region.noSelect_spec hsel) g4 r.length listed a w hcl (Region.free_spec g1 h2) hr g2 g3 (anyN_of_ASeq hsel r _ _ w (closed_set hcl hr) h4 g5)
    rcases h3 j hlt with (h | h) | h
    · exact absurd h hj
    · exact .inl h
    · exact .inr h
  | (i, false) :: r, listed, a, w, hcl, hok, h => by
    simp only [okS, Bool.and_eq_true, beq_iff_eq] at hok
    obtain ⟨h1, h2⟩ := hok
    have hr : i ∈ Region.ready md ops listed := by rw [h1]; exact List.mem_singleton.2 rfl
    refine ⟨fun h0 => (by rw [h0] at h1; cases h1), fun j hj => ?_⟩
    rw [h1] at hj
    obtain rfl := List.mem_singleton.1 hj
    exact wpOp_mono (fun a' w' h' => ⟨h'.1, anyN_of_ASeq hsel r _ a' w' (closed_set hcl hr) h2 h'.2⟩) h
end
section
variable {c : Cx} {s : S} {Q : Exit → S → Prop} {ops : Array Oper} {L : List Oper} {need : Nat → Bool} {l : List (Nat × Bool)} {i : Nat} {o : Oper}
/-- First come the reads. -/
def AD1 (c : Cx) (ops : Array Oper) (Q : Exit → S → Prop) (need : Nat → Bool) (l : List (Nat × Bool)) (s : S) : Prop := ∀ g a w, Sim c g s a w → ASeq c.P ops (QQ c Q) (Below w.heap.size w) need l a w
/-- Then what makes new memory. -/
def AD2 (c : Cx) (ops : Array Oper) (Q : Exit → S → Prop) (need : Nat → Bool) (l : List (Nat × Bool)) (s : S) : Prop := ∀ W g a w, Sim c g s a w → Below W.heap.size W w → ASeq c.P ops (QQ c Q) (Below W.heap.size W) need l a w
/-- Then what writes. -/
def AD3 (c : Cx) (ops : Array Oper) (Q : Exit → S → Prop) (need : Nat → Bool) (l : List (Nat × Bool)) (s : S) : Prop := ∀ (T : World → Prop) g a w, Sim c g s a w → ASeq c.P ops (QQ c Q) T need l a w
def noP (Q : Exit → S → Prop) : Prop := ∀ ch s, Q (.panic ch) s → False
theorem QQ_noP (h : noP Q) (d : Option Tmp) (x : Value) : ∀ ch a w, QQ c Q (.panic ch) (Act.put a d x) w → QQ c Q (.panic ch) a w := fun ch a w ⟨g, s, h1, _⟩ => (h ch s h1).elim
theorem AW.draw {id : Nat} {l : List Oper} (order : List (Nat × Bool)) (need : Nat → Bool) (N : Nat) (hm : c.P.follows .mixedOrders = true) (hsel : Region.noSelect l.toArray = true) (hlen : order.length = l.length)
    (hok : okS .any l.toArray need N order (Array.replicate l.length false) = true) (h : AD1 c l.toArray Q need order s) : AW c (.region id l.toArray true) Q s := by
  intro g a w hs
  refine wp_region_any hm ?_
  have hs' : Sim c g s a w.drew := hs.move (Below.drew (Below.refl _ _))
  have := any_of_anyN _ _ _ _ (anyN_of_ASeq (P := c.P) (Q := QQ c Q) (T := Below w.drew.heap.size w.drew) (need := need) (md := .any) hsel order (Array.replicate l.length false) a w.drew (by
    intro j oj _ hl
    rw [Array.getD_eq_getD_getElem?, Array.getElem?_replicate] at hl
    split at hl <;> simp at hl) hok (h g a _ hs'))
  rw [hlen] at this
  simpa using this
theorem wpOp_of {P : Program} {Qc : Exit → Act → World → Prop} {a : Act} {w : World} {K : Act → World → Prop} (hi : ops[i]? = some o) (hg : o.guard = none) (h : o.wp P a w K Qc) : wpOp P ops Qc i K a w := by
  unfold wpOp
  simp only [hi, Region.wanted, hg, if_true]
  exact .inl h
theorem wpOp_ofy {P : Program} {Qc : Exit → Act → World → Prop} {a : Act} {w : World} {K : Act → World → Prop} (hi : ops[i]? = some o) (hw : Region.wanted o (yielded ops a.tmps) = true) (h : o.wp P a w K Qc) : wpOp P ops Qc i K a w := by
  unfold wpOp
  simp only [hi, hw, if_true]
  exact .inl h
theorem AD1.rd {v : V} (hi : L[i]? = some o) (hg : o.guard = none) (hd : dok s o = true) (hp : noP Q) (h : RD c o s v) (hN : AD1 c L.toArray Q need l (s.put o.dst v)) : AD1 c L.toArray Q need ((i, true) :: l) s := fun g a w hs => by
  obtain ⟨x, h1, h2⟩ := h g a w hs
  exact ⟨o, x, by simpa using hi, .inl ⟨by simp [Region.wanted, hg], h2⟩, Below.refl _ _, QQ_noP hp _ _, hN g _ w (hs.put o.dst (dok_spec hd) h1)⟩
theorem AD1.rp {v : V} (hi : L[i]? = some o) (hg : o.guard = none) (hd : dok s o = true) (hp : noP Q) (h : RP c o s v) (hN : AD1 c L.toArray Q need l (s.put o.dst v)) : AD1 c L.toArray Q need ((i, true) :: l) s := AD1.rd hi hg hd hp h.rd hN
theorem AD1.rdy {v : V} {j : Nat} {b : Bool} (hi : L[i]? = some o) (hg : o.guard = some (j, b)) (hy : yld L.toArray s j = some b) (hd : dok s o = true) (hp : noP Q) (h : RD c o s v) (hN : AD1 c L.toArray Q need l (s.put o.dst v)) : AD1 c L.toArray Q need ((i, true) :: l) s := fun g a w hs => by
  obtain ⟨x, h1, h2⟩ := h g a w hs
  exact ⟨o, x, by simpa using hi, .inl ⟨by simp [Region.wanted, hg, yld_spec hy hs], h2⟩, Below.refl _ _, QQ_noP hp _ _, hN g _ w (hs.put o.dst (dok_spec hd) h1)⟩
theorem AD1.rpy {v : V} {j : Nat} {b : Bool} (hi : L[i]? = some o) (hg : o.guard = some (j, b)) (hy : yld L.toArray s j = some b) (hd : dok s o = true) (hp : noP Q) (h : RP c o s v) (hN : AD1 c L.toArray Q need l (s.put o.dst v)) : AD1 c L.toArray Q need ((i, true) :: l) s := AD1.rdy hi hg hy hd hp h.rd hN
theorem AD1.no {j : Nat} {b b' : Bool} (hi : L[i]? = some o) (hg : o.guard = some (j, b)) (hy : yld L.toArray s j = some b') (hb : (b' == b) = false) (hd : dok s o = true) (hp : noP Q) (hN : AD1 c L.toArray Q need l (s.put o.dst .junk)) : AD1 c L.toArray Q need ((i, true) :: l) s := fun g a w hs =>
  ⟨o, undef, by simpa using hi, .inr ⟨by simp only [Region.wanted, hg, yld_spec hy hs]; simpa using hb, rfl⟩, Below.refl _ _, QQ_noP hp _ _, hN g _ w (hs.put o.dst (dok_spec hd) (.junk _))⟩
theorem AD1.go (h : AD2 c L.toArray Q need l s) : AD1 c L.toArray Q need l s := fun g a w hs => h w g a w hs (Below.refl _ _)
theorem AD1.nil (h : Q .normal s) : AD1 c L.toArray Q need [] s := fun g a w hs => ⟨g, s, h, hs⟩
theorem AD2.rp {v : V} (hi : L[i]? = some o) (hg : o.guard = none) (hd : dok s o = true) (hp : noP Q) (h : RP c o s v) (hN : AD2 c L.toArray Q need l (s.put o.dst v)) : AD2 c L.toArray Q need ((i, true) :: l) s := fun W g a w hs hb => by
  obtain ⟨x, h1, h2⟩ := h g a w hs
  exact ⟨o, x, by simpa using hi, .inl ⟨by simp [Region.wanted, hg], fun w' _ => h2 w'⟩, hb, QQ_noP hp _ _, hN W g _ w (hs.put o.dst (dok_spec hd) h1) hb⟩
theorem AD2.stepM (hi : L[i]? = some o) (hg : o.guard = none) (h : StepM c o s (AD2 c L.toArray Q need l)) : AD2 c L.toArray Q need ((i, false) :: l) s := fun W g a w hs hb =>
  wpOp_of (by simpa using hi) hg (h g a w hs _ _ fun g' s' a' w' h1 h2 h3 => ⟨fun _ => hb.trans (h3.mono hb.size), h1 W g' a' w' h2 (hb.trans (h3.mono hb.size))⟩)
theorem AD2.sm {X : S} (hi : L[i]? = some o) (hg : o.guard = none) (h : StepM c o s (fun s' => s' = X)) (hN : AD2 c L.toArray Q need l X) : AD2 c L.toArray Q need ((i, false) :: l) s :=
  AD2.stepM hi hg fun g a w hs K Q' hK => h g a w hs K Q' fun g' s' a' w' e h1 h2 => hK g' s' a' w' (by subst e; exact hN) h1 h2
theorem AD2.call {post : V → Prop} (hi : L[i]? = some o) (hg : o.guard = none) (h : StepM c o s (fun s' => ∃ v, post v ∧ v.pure ∧ s' = s.put o.dst v)) (hN : ∀ v, post v → v.pure → AD2 c L.toArray Q need l (s.put o.dst v)) : AD2 c L.toArray Q need ((i, false) :: l) s :=
  AD2.stepM hi hg fun g a w hs K Q' hK => h g a w hs K Q' fun g' s' a' w' ⟨v, h1, h2, e⟩ h3 h4 => hK g' s' a' w' (by subst e; exact hN v h1 h2) h3 h4
theorem AD2.rd1 {v : V} (hi : L[i]? = some o) (hg : o.guard = none) (hd : dok s o = true) (h : RD c o s v) (hN : AD2 c L.toArray Q need l (s.put o.dst v)) : AD2 c L.toArray Q need ((i, false) :: l) s :=
  AD2.stepM hi hg (h.stepM hd hN)
theorem AD2.rp1 {v : V} (hi : L[i]? = some o) (hg : o.guard = none) (hd : dok s o = true) (h : RP c o s v) (hN : AD2 c L.toArray Q need l (s.put o.dst v)) : AD2 c L.toArray Q need ((i, false) :: l) s := AD2.rd1 hi hg hd h.rd hN
theorem AD2.rpy {v : V} {j : Nat} {b : Bool} (hi : L[i]? = some o) (hg : o.guard = some (j, b)) (hy : yld L.toArray s j = some b) (hd : dok s o = true) (hp : noP Q) (h : RP c o s v) (hN : AD2 c L.toArray Q need l (s.put o.dst v)) : AD2 c L.toArray Q need ((i, true) :: l) s := fun W g a w hs hb => by
  obtain ⟨x, h1, h2⟩ := h g a w hs
  exact ⟨o, x, by simpa using hi, .inl ⟨by simp [Region.wanted, hg, yld_spec hy hs], fun w' _ => h2 w'⟩, hb, QQ_noP hp _ _, hN W g _ w (hs.put o.dst (dok_spec hd) h1) hb⟩
theorem AD2.no {j : Nat} {b b' : Bool} (hi : L[i]? = some o) (hg : o.guard = some (j, b)) (hy : yld L.toArray s j = some b') (hb' : (b' == b) = false) (hd : dok s o = true) (hp : noP Q) (hN : AD2 c L.toArray Q need l (s.put o.dst .junk)) : AD2 c L.toArray Q need ((i, true) :: l) s := fun W g a w hs hb =>
  ⟨o, undef, by simpa using hi, .inr ⟨by simp only [Region.wanted, hg, yld_spec hy hs]; simpa using hb', rfl⟩, hb, QQ_noP hp _ _, hN W g _ w (hs.put o.dst (dok_spec hd) (.junk _)) hb⟩
theorem AD2.stepMy {j : Nat} {b : Bool} (hi : L[i]? = some o) (hg : o.guard = some (j, b)) (hy : yld L.toArray s j = some b) (h : StepM c o s (AD2 c L.toArray Q need l)) : AD2 c L.toArray Q need ((i, false) :: l) s := fun W g a w hs hb =>
  wpOp_ofy (by simpa using hi) (by simp [Region.wanted, hg, yld_spec hy hs]) (h g a w hs _ _ fun g' s' a' w' h1 h2 h3 => ⟨fun _ => hb.trans (h3.mono hb.size), h1 W g' a' w' h2 (hb.trans (h3.mono hb.size))⟩)
theorem AD2.cally {post : V → Prop} {j : Nat} {b : Bool} (hi : L[i]? = some o) (hg : o.guard = some (j, b)) (hy : yld L.toArray s j = some b) (h : StepM c o s (fun s' => ∃ v, post v ∧ v.pure ∧ s' = s.put o.dst v)) (hN : ∀ v, post v → v.pure → AD2 c L.toArray Q need l (s.put o.dst v)) : AD2 c L.toArray Q need ((i, false) :: l) s :=
  AD2.stepMy hi hg hy fun g a w hs K Q' hK => h g a w hs K Q' fun g' s' a' w' ⟨v, h1, h2, e⟩ h3 h4 => hK g' s' a' w' (by subst e; exact hN v h1 h2) h3 h4
theorem AD2.rd1y {v : V} {j : Nat} {b : Bool} (hi : L[i]? = some o) (hg : o.guard = some (j, b)) (hy : yld L.toArray s j = some b) (hd : dok s o = true) (h : RD c o s v) (hN : AD2 c L.toArray Q need l (s.put o.dst v)) : AD2 c L.toArray Q need ((i, false) :: l) s :=
  AD2.stepMy hi hg hy (h.stepM hd hN)
theorem AD2.rp1y {v : V} {j : Nat} {b : Bool} (hi : L[i]? = some o) (hg : o.guard = some (j, b)) (hy : yld L.toArray s j = some b) (hd : dok s o = true) (h : RP c o s v) (hN : AD2 c L.toArray Q need l (s.put o.dst v)) : AD2 c L.toArray Q need ((i, false) :: l) s := AD2.rd1y hi hg hy hd h.rd hN
theorem AD2.go (h : AD3 c L.toArray Q need l s) : AD2 c L.toArray Q need l s := fun W g a w hs _ => h _ g a w hs
theorem AD2.nil (h : Q .normal s) : AD2 c L.toArray Q need [] s := fun W g a w hs _ => ⟨g, s, h, hs⟩
theorem AD3.step (hi : L[i]? = some o) (hg : o.guard = none) (hn : need i = false) (h : Step c o s (AD3 c L.toArray Q need l)) : AD3 c L.toArray Q need ((i, false) :: l) s := fun T g a w hs =>
  wpOp_of (by simpa using hi) hg (h g a w hs _ _ fun g' s' a' w' h1 h2 => ⟨fun h0 => (by rw [hn] at h0; cases h0), h1 T g' a' w' h2⟩)
theorem AD3.st {X : S} (hi : L[i]? = some o) (hg : o.guard = none) (hn : need i = false) (h : Step c o s (fun s' => s' = X)) (hN : AD3 c L.toArray Q need l X) : AD3 c L.toArray Q need ((i, false) :: l) s :=
  AD3.step hi hg hn fun g a w hs K Q' hK => h g a w hs K Q' fun g' s' a' w' e h1 => hK g' s' a' w' (by subst e; exact hN) h1
theorem AD3.rd1 {v : V} (hi : L[i]? = some o) (hg : o.guard = none) (hn : need i = false) (hd : dok s o = true) (h : RD c o s v) (hN : AD3 c L.toArray Q need l (s.put o.dst v)) : AD3 c L.toArray Q need ((i, false) :: l) s :=
  AD3.step hi hg hn (h.stepM hd hN).step
theorem AD3.rp1 {v : V} (hi : L[i]? = some o) (hg : o.guard = none) (hn : need i = false) (hd : dok s o = true) (h : RP c o s v) (hN : AD3 c L.toArray Q need l (s.put o.dst v)) : AD3 c L.toArray Q need ((i, false) :: l) s := AD3.rd1 hi hg hn hd h.rd hN
theorem AD3.sm {X : S} (hi : L[i]? = some o) (hg : o.guard = none) (hn : need i = false) (h : StepM c o s (fun s' => s' = X)) (hN : AD3 c L.toArray Q need l X) : AD3 c L.toArray Q need ((i, false) :: l) s := AD3.st hi hg hn h.step hN
theorem AD3.nil (h : Q .normal s) : AD3 c L.toArray Q need [] s := fun T g a w hs => ⟨g, s, h, hs⟩
end
theorem inf3 : Inf Tryd.prog 3 1 8 (Value.int IntKind.i64 0) := by unfold Inf; kernel_rfl
theorem inf4 : Inf Tryd.prog 4 1 1 (Value.bool false) := by unfold Inf; kernel_rfl
theorem inf5 : Inf Tryd.prog 5 1 1 (Value.int IntKind.u8 0) := by unfold Inf; kernel_rfl
theorem inf22 : Inf Tryd.prog 22 1 24 (Value.slice none 0 0) := by unfold Inf; kernel_rfl
theorem inf24 : Inf Tryd.prog 24 2 32 (.agg #[Value.int IntKind.i64 0, Value.slice none 0 0]) := by unfold Inf; kernel_rfl
theorem pl24 : Places Tryd.prog 24 [(0, 1), (1, 1)] := ⟨_, Tryd.underlying24, by kernel_rfl⟩
theorem inf31 : Inf Tryd.prog 31 1 24 (Value.slice none 0 0) := by unfold Inf; kernel_rfl
theorem inf33 : Inf Tryd.prog 33 2 32 (.agg #[Value.int IntKind.i64 0, Value.slice none 0 0]) := by unfold Inf; kernel_rfl
theorem pl33 : Places Tryd.prog 33 [(0, 1), (1, 1)] := ⟨_, Tryd.underlying33, by kernel_rfl⟩
theorem inf35 : Inf Tryd.prog 35 5 5 (.agg #[Value.bool false, Value.bool false, Value.bool false, Value.bool false, Value.bool false]) := by unfold Inf; kernel_rfl
theorem pl35 : Places Tryd.prog 35 [(0, 1), (1, 1), (2, 1), (3, 1), (4, 1)] := ⟨_, Tryd.underlying35, by kernel_rfl⟩
theorem inf39 : Inf Tryd.prog 39 2 16 (.agg #[Value.int IntKind.i64 0, Value.int IntKind.i64 0]) := by unfold Inf; kernel_rfl
theorem pl39 : Places Tryd.prog 39 [(0, 1), (1, 1)] := ⟨_, Tryd.underlying39, by kernel_rfl⟩
theorem inf41 : Inf Tryd.prog 41 1 24 (Value.slice none 0 0) := by unfold Inf; kernel_rfl
theorem inf43 : Inf Tryd.prog 43 1 8 (.agg #[Value.int IntKind.i64 0]) := by unfold Inf; kernel_rfl
theorem pl43 : Places Tryd.prog 43 [(0, 1)] := ⟨_, Tryd.underlying43, by kernel_rfl⟩
theorem inf51 : Inf Tryd.prog 51 2 16 (.agg #[Value.int IntKind.i64 0, Value.int IntKind.i64 0]) := by unfold Inf; kernel_rfl
theorem pl51 : Places Tryd.prog 51 [(0, 1), (1, 1)] := ⟨_, Tryd.underlying51, by kernel_rfl⟩
theorem inf57 : Inf Tryd.prog 57 1 8 (Value.map none) := by unfold Inf; kernel_rfl
theorem inf60 : Inf Tryd.prog 60 4 32 (.agg #[Value.int IntKind.i64 0, Value.int IntKind.i64 0, Value.int IntKind.i64 0, Value.int IntKind.i64 0]) := by unfold Inf; kernel_rfl
theorem pl60 : Places Tryd.prog 60 [(0, 1), (1, 1), (2, 1), (3, 1)] := ⟨_, Tryd.underlying60, by kernel_rfl⟩
theorem inf61 : Inf Tryd.prog 61 1 24 (Value.slice none 0 0) := by unfold Inf; kernel_rfl
theorem inf73 : Inf Tryd.prog 73 2 16 (.agg #[Value.int IntKind.i64 0, Value.int IntKind.i64 0]) := by unfold Inf; kernel_rfl
theorem inf74 : Inf Tryd.prog 74 1 8 (Value.pointer none) := by unfold Inf; kernel_rfl
theorem inf75 : Inf Tryd.prog 75 1 24 (Value.slice none 0 0) := by unfold Inf; kernel_rfl
theorem inf77 : Inf Tryd.prog 77 2 32 (.agg #[Value.pointer none, Value.slice none 0 0]) := by unfold Inf; kernel_rfl
end Go.Proofs.YthiknkcigcglkaaDoor
