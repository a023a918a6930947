/- Queues: slices of the call's own that lose their first elements and get new ones behind. -/
import Derived.Test.YthlcginebeapdaaAmU
namespace Go.Proofs.Ythlcginebeapdaa
open Go.RowKit
set_option linter.unusedSimpArgs false
set_option linter.unusedVariables false

section
variable {P : Program} (w : World)
theorem run_append_room_off (t ty e : TypeId) (i : TypeInfo) (ht : P.underlying t = some (.slice e)) (hi : P.info? e = some i)
    (g off sLen sCap : Nat) (cur : Array Value) (hg : w.heap[g]? = some (.cells cur e (0, 0)))
    (a : Addr) (m c : Nat) (news : List Value) (hl : news.length = m * i.size) (hnews : ∀ j u, news[j]? = some u → w.cell? (a.add j) = some u) (h1 : ∀ u ∈ news, u.oneCell' = true)
    (hroom : sLen + m ≤ sCap) (hfit : off + sLen * i.size + news.length ≤ cur.size) :
    (Builtin.append_ #[t, t] ty #[.slice (some ⟨g, off, none⟩) sLen sCap, .slice (some a) m c]).run P w =
      .ok (.slice (some ⟨g, off, none⟩) (sLen + m) sCap) (w.setRow g (cur.toList.take (off + sLen * i.size) ++ news ++ cur.toList.drop (off + sLen * i.size + news.length)).toArray) := by
  have hf := run_firstCells_some (P := P) w i.size m a m c news hl hnews
  have hst := run_storeCells_at P g (off + sLen * i.size) e news 0 cur w hg (by simpa using hfit) h1
  simp only [Nat.add_zero] at hst
  simp [Builtin.append_, run_underlying ht, sizeOf, typeInfo, hi, Builtin.lenOf, hroom, hf, Addr.add_lit, hst]
end

section
variable {c : Cx} {s : S} {o : Oper} {Q : Exit → S → Prop} {α : Type}

theorem rp_len_que {t e : TypeId} {x : Operand} {r sz k n : Nat} (hu : c.P.underlying t = some (.slice e)) (ho : o.op = .call { callee := .builtin .len, args := #[x], argTypes := #[t] }) (hx : s.ev x = some (.que r sz k n)) : RP c o s (.i (n : Int)) := fun g a w hs => by
  have h := hs.ev hx
  generalize hy : a.eval x = y at h
  cases h with
  | que _ _ _ _ ad cap hn hcap h =>
    refine ⟨.int .i64 n, .d _ _ (.p _), fun w' => ?_⟩
    have hn2 : (n : Int) ≤ 9223372036854775807 := by simp only [maxLen] at hcap; omega
    simp [execOp, ho, resolve, invoke, builtin, hy, Builtin.len_, run_underlying hu, goInt, wrap_in (n := (n : Int)) (by omega) hn2]
theorem rp_index_que {t e : TypeId} {x i : Operand} {r sz k n j bt : Nat} {z : Value} {n' : Int} {kd : IntKind} (hu : c.P.underlying t = some (.slice e)) (hi : Inf c.P e sz bt z) (ho : o.op = .indexAddr t x i) (hx : s.ev x = some (.que r sz k n)) (hy : s.ev i = some (.d (.p (.int kd n')))) (hk : n' = (j : Int)) (hlt : j < n) : RP c o s (.ref r ((k + j) * sz)) := fun g a w hs => by
  have h := hs.ev hx
  refine ⟨.pointer (some ⟨(g r).1, (k + j) * sz, none⟩), .ref _ _, fun w' => ?_⟩
  generalize hxx : a.eval x = u at h
  cases h with
  | que _ _ _ _ ad cap hn hcap h =>
    obtain ⟨rfl, _⟩ := h (by omega)
    subst hk
    simp [execOp, ho, hxx, VRep.p_eq (hs.ev hy), Instr.indexAt, run_underlying hu, asIntOf, hlt, run_sizeOf hi, Addr.add, Nat.add_mul]
/-- Without its first elements. -/
theorem rd_slice_que {t e : TypeId} {x y : Operand} {r sz k n j bt : Nat} {z : Value} {n' : Int} {kd : IntKind} (hu : c.P.underlying t = some (.slice e)) (hi : Inf c.P e sz bt z) (ho : o.op = .slice t x (some y) none none) (hx : s.ev x = some (.que r sz k n)) (hy : s.ev y = some (.d (.p (.int kd n')))) (hk : n' = (j : Int)) (hle : j ≤ n) : RD c o s (.que r sz (k + j) (n - j)) := fun g a w hs => by
  subst hk
  have h := hs.ev hx
  have hyv := VRep.p_eq (hs.ev hy)
  generalize hxx : a.eval x = u at h
  cases h with
  | que _ _ _ _ ad cap hn hcap h =>
    refine ⟨.slice (if cap = j then ad else ad.map (·.add (j * sz))) (n - j) (cap - j), .que r sz (k + j) (n - j) _ _ (by omega) (by omega) fun h0 => ?_, fun w' _ => ?_⟩
    · obtain ⟨rfl, h2⟩ := h (by omega)
      rw [if_neg (by omega)]
      exact ⟨by simp [Addr.add, Nat.add_mul], by omega⟩
    · have h0 : (0 : Int) ≤ (j : Int) ∧ (j : Int) ≤ (n : Int) := by omega
      simp only [execOp, ho, hxx, hyv, Option.map_some, Option.map_none]
      simp only [Instr.sliceAt, Instr.slice, Sem.run_bind, run_underlying hu, Result.andThen_ok, Instr.sliceBounds, run_sliceBound _ kd _ _ _ h0.1 h0.2, Sem.run_pure, run_sizeOf hi, Int.toNat_natCast]

/-- append onto a queue: it stays where it is, or goes to new memory and begins there. -/
theorem st_append_que {t e : TypeId} {x y : Operand} {r r2 bt : Nat} {z : Value} {row row2 : Row} {pre T : List α} {f : α → V} {q : α} (hu : c.P.underlying t = some (.slice e)) (hi : Inf c.P e 1 bt z) (hzs : z.cells.size = 1)
    (ho : o.op = .call { callee := .builtin .append, args := #[x, y], argTypes := #[t, t] }) (hx : s.ev x = some (.que r 1 pre.length T.length)) (hr : fnd s.H r = some row) (hf : row.nil = false) (hrz : row.sz = 1) (hty : row.ty = e)
    (hl : row.cells = (pre ++ T).map f) (hc : ∀ l : List α, V.hasL r (l.map f) = false) (hy : s.ev y = some (.own r2 1 1 false)) (hr2 : fnd s.H r2 = some row2) (hf2 : row2.nil = false) (hnews : row2.cells.take 1 = [f q]) (hone : (f q).one = true) (h63 : T.length ≤ 1000000) (hbt : bt ≤ 64) (hd : dok s o = true) :
    Step c o s (fun s' => ∃ pre' : List α, s' = S.put ⟨s.n, (s.forget r).T, (r, ⟨e, (pre' ++ (T ++ [q])).map f, false, 1⟩) :: (s.forget r).H, (s.forget r).K⟩ o.dst (.que r 1 pre'.length (T.length + 1))) := by
  intro g a w hs K Q hK
  obtain ⟨i, hi1, hi2, hi3, hi4⟩ := hi.out
  -- the news
  have hyv := hs.ev hy
  obtain ⟨arr2, b1, b2, b3⟩ := hs.obj r2 row2 hr2 hf2
  generalize hyy : a.eval y = yv at hyv
  cases hyv with
  | own _ _ _ hn2 hcap2 =>
  obtain ⟨u, b4, b5⟩ := b3 0 (f q) (by
    have : (row2.cells.take 1)[0]? = some (f q) := by rw [hnews]; rfl
    simpa using this)
  have hnews' : ∀ (j : Nat) (v : Value), [u][j]? = some v → w.cell? ((⟨(g r2).1, 0, none⟩ : Addr).add j) = some v := by
    intro j v hv
    match j, hv with
    | 0, hv =>
      simp at hv
      subst hv
      rw [addr_add, Nat.zero_add]
      exact (cell_of_row w _ _ _ _ _ b1).trans b4
    | n + 1, hv => simp at hv
  have h1 : ∀ v ∈ [u], v.oneCell' = true := by
    intro v hv
    simp at hv
    subst hv
    exact b5.one hone
  -- the queue
  have hxv := hs.ev hx
  obtain ⟨arr, a1, a2, a3⟩ := hs.obj r row hr hf
  have hlt : (g r).1 < w.heap.size := (Array.getElem?_eq_some_iff.1 a1).1
  have hat : ∀ (j : Nat) (x : α), (pre ++ T)[j]? = some x → ∃ y, arr[j]? = some y ∧ VRep w (qt c s.H g) g (f x) y := fun j x hx => a3 j (f x) (by rw [hl, List.getElem?_map, hx]; rfl)
  have hsz : arr.size = (g r).2 := by rw [a2 (by omega), hrz, Nat.mul_one]
  generalize hxx : a.eval x = xv at hxv
  cases hxv with
  | que _ _ _ _ ad cap hn hcap hca =>
  by_cases hroom : T.length + 1 ≤ cap
  · obtain ⟨rfl, hc2⟩ := hca (by omega)
    rw [Nat.mul_one] at hxx
    have hfit : pre.length + T.length * i.size + [u].length ≤ arr.size := by rw [hi2, hsz]; simp; omega
    have hrun := run_append_room_off (P := c.P) w t o.type e i hu hi1 (g r).1 pre.length T.length cap arr (by rw [← hty]; exact a1) ⟨(g r2).1, 0, none⟩ 1 (g r2).2 [u] (by simp [hi2]) hnews' h1 hroom hfit
    rw [hi2, Nat.mul_one] at hrun
    have hrow := setRow_heap w (g r).1 arr (arr.toList.take (pre.length + T.length) ++ [u] ++ arr.toList.drop (pre.length + T.length + [u].length)).toArray row.ty _ a1
    have hgrown := Sim.grown hs (row' := ⟨e, (pre ++ (T ++ [q])).map f, false, 1⟩) (cap := (g r).2) (G := (g r).1) hr (.inl ⟨hf, rfl⟩) rfl (by rw [← hty]; exact hrow)
      (fun b hb hne => setRow_other w (g r).1 b _ (fun e' => hne hf e')) (by simp) rfl rfl rfl (hc _) (fun _ => by simp; omega) (by
        intro j v hv
        simp only at hv
        rw [← List.append_assoc, List.getElem?_map] at hv
        by_cases hj : j < (pre ++ T).length
        · rw [List.getElem?_append_left hj, List.getElem?_eq_getElem hj] at hv
          simp only [Option.map_some, Option.some.injEq] at hv
          obtain ⟨y, h4, h5⟩ := hat j _ (List.getElem?_eq_getElem hj)
          subst hv
          refine ⟨y, ?_, h5⟩
          simp only [List.length_append] at hj
          have hjs : j < arr.size := (Array.getElem?_eq_some_iff.1 h4).1
          simp only [List.append_assoc, List.getElem?_toArray]
          rw [List.getElem?_append_left (by simp; omega), List.getElem?_take_of_lt hj]
          simpa using h4
        · rw [List.getElem?_append_right (by omega)] at hv
          simp only [List.length_append] at hj
          have hjj : j = pre.length + T.length := by
            have : j - (pre ++ T).length < 1 := by
              cases hh : [q][j - (pre ++ T).length]? with
              | none => rw [hh] at hv; cases hv
              | some x => exact (List.getElem?_eq_some_iff.1 hh).1
            simp only [List.length_append] at this
            omega
          subst hjj
          simp at hv
          subst hv
          refine ⟨u, ?_, b5⟩
          simp only [List.append_assoc, List.getElem?_toArray]
          rw [List.getElem?_append_right (by simp; omega)]
          simp
          rw [show pre.length + T.length - min (pre.length + T.length) arr.size = 0 by omega]
          rfl)
    unfold Oper.wp
    have hexec : (execOp a.eval o).run c.P w = .ok (.value (.slice (some ⟨(g r).1, pre.length, none⟩) (T.length + 1) cap)) (w.setRow (g r).1 (arr.toList.take (pre.length + T.length) ++ [u] ++ arr.toList.drop (pre.length + T.length + [u].length)).toArray) := by
      simp only [execOp, ho, resolve, invoke, builtin, Sem.run_bind, Sem.run_pure, Result.andThen_ok, List.map_toArray, List.map_cons, List.map_nil, hxx, hyy, hrun]
    rw [hexec]
    refine hK _ _ _ _ ⟨pre, rfl⟩ (hgrown.put o.dst (dok_spec (s := s) hd) ?_)
    have := VRep.que (w := w.setRow (g r).1 (arr.toList.take (pre.length + T.length) ++ [u] ++ arr.toList.drop (pre.length + T.length + [u].length)).toArray) (q := qt c ((r, (⟨e, (pre ++ (T ++ [q])).map f, false, 1⟩ : Row)) :: (s.forget r).H) (fun k => if k = r then ((g r).1, (g r).2) else g k)) (g := fun k => if k = r then ((g r).1, (g r).2) else g k) r 1 pre.length (T.length + 1) (some ⟨(g r).1, pre.length, none⟩) cap (by omega) hcap (fun _ => ⟨by simp, by simpa using hc2⟩)
    exact this
  · -- new memory
    obtain ⟨olds, ho1, ho2⟩ : ∃ olds : List Value, olds.length = T.length ∧ ∀ (j : Nat) (v : Value), olds[j]? = some v → arr[pre.length + j]? = some v ∧ ∃ x, T[j]? = some x ∧ VRep w (qt c s.H g) g (f x) v := by
      refine ⟨(List.range T.length).map fun j => arr.getD (pre.length + j) undef, by simp, fun j v hv => ?_⟩
      have hj : j < T.length := by simpa using (List.getElem?_eq_some_iff.1 hv).1
      simp only [List.getElem?_map, List.getElem?_range hj, Option.map_some, Option.some.injEq] at hv
      obtain ⟨y, h4, h5⟩ := hat (pre.length + j) T[j] (by rw [List.getElem?_append_right (by omega)]; simp [hj])
      rw [Array.getD_eq_getD_getElem?, h4] at hv
      simp only [Option.getD_some] at hv
      subst hv
      exact ⟨h4, T[j], List.getElem?_eq_getElem hj, h5⟩
    have hge := grownCap_ge w (T.length + 1) cap e
    have hfits := growslice_fits (need := T.length + 1) (old := cap) (bytes := i.bytes) (by omega) (by
      rw [hi3]
      have : (T.length + 1) * bt ≤ 1000001 * 64 := Nat.mul_le_mul (by omega) hbt
      omega)
    obtain ⟨hrun⟩ : Nonempty ((Builtin.append_ #[t, t] o.type #[.slice ad T.length cap, .slice (some ⟨(g r2).1, 0, none⟩) 1 (g r2).2]).run c.P w =
        .ok (.slice (some ⟨w.heap.size, 0, none⟩) (T.length + 1) (grownCap w (T.length + 1) cap e)) (w.drew.alloc (.cells (olds.toArray ++ [u].toArray ++ Builtin.zeroCells z.cells (grownCap w (T.length + 1) cap e - (T.length + 1))) e))) := by
      refine ⟨?_⟩
      cases ad with
      | none =>
        have hcap0 : cap = 0 := by
          by_cases h0 : cap = 0
          · exact h0
          · have := (hca h0).1; cases this
        subst hcap0
        have hT0 : T.length = 0 := by omega
        have holds : olds = [] := List.eq_nil_of_length_eq_zero (by omega)
        have := run_append_nil (P := c.P) w t o.type e i z hu hi1 hi4 ⟨(g r2).1, 0, none⟩ 1 (g r2).2 [u] (by simp [hi2]) hnews' (by omega) (by omega) (by rw [hi3]; omega)
        rw [hT0, holds]
        simpa using this
      | some b =>
        refine run_append_grow (P := c.P) w t o.type e i z hu hi1 hi4 b T.length cap olds (by simp [hi2, ho1]) (fun j v hv => ?_) ⟨(g r2).1, 0, none⟩ 1 (g r2).2 [u] (by simp [hi2]) hnews' (by omega) (by omega) hfits
        have hj : j < T.length := by rw [← ho1]; exact (List.getElem?_eq_some_iff.1 hv).1
        obtain ⟨hb, _⟩ := hca (by omega)
        simp only [Option.some.injEq] at hb
        subst hb
        rw [addr_add, Nat.mul_one]
        exact (cell_of_row w _ _ _ _ _ a1).trans (ho2 j v hv).1
    have hgrown := Sim.grown hs (w' := w.drew.alloc (.cells (olds.toArray ++ [u].toArray ++ Builtin.zeroCells z.cells (grownCap w (T.length + 1) cap e - (T.length + 1))) e)) (row' := ⟨e, ([] ++ (T ++ [q])).map f, false, 1⟩) (cap := grownCap w (T.length + 1) cap e) (G := w.heap.size) hr (.inr rfl) rfl (heap_alloc_new w.drew _)
      (fun b hb _ => heap_alloc_old w.drew _ (r := b) hb) (by simp) rfl rfl rfl (hc _) (fun _ => by simp [size_zeroCells, hzs, ho1]; omega) (by
        intro j v hv
        simp only [List.nil_append] at hv
        rw [List.getElem?_map] at hv
        by_cases hj : j < T.length
        · rw [List.getElem?_append_left hj, List.getElem?_eq_getElem hj] at hv
          simp only [Option.map_some, Option.some.injEq] at hv
          subst hv
          have hjo : j < olds.length := by omega
          obtain ⟨_, x, h6, h7⟩ := ho2 j olds[j] (List.getElem?_eq_getElem hjo)
          rw [List.getElem?_eq_getElem hj] at h6
          simp only [Option.some.injEq] at h6
          subst h6
          refine ⟨olds[j], ?_, h7⟩
          rw [Array.getElem?_append_left (by simp; omega), Array.getElem?_append_left (by simpa using hjo)]
          simp [hjo]
        · rw [List.getElem?_append_right (by omega)] at hv
          have hjj : j = T.length := by
            have : j - T.length < 1 := by
              cases hh : [q][j - T.length]? with
              | none => rw [hh] at hv; cases hv
              | some x => exact (List.getElem?_eq_some_iff.1 hh).1
            omega
          subst hjj
          simp at hv
          subst hv
          refine ⟨u, ?_, b5⟩
          rw [Array.getElem?_append_left (by simp; omega), Array.getElem?_append_right (by simp; omega)]
          simp [ho1])
    unfold Oper.wp
    have hexec : (execOp a.eval o).run c.P w = .ok (.value (.slice (some ⟨w.heap.size, 0, none⟩) (T.length + 1) (grownCap w (T.length + 1) cap e))) (w.drew.alloc (.cells (olds.toArray ++ [u].toArray ++ Builtin.zeroCells z.cells (grownCap w (T.length + 1) cap e - (T.length + 1))) e)) := by
      simp only [execOp, ho, resolve, invoke, builtin, Sem.run_bind, Sem.run_pure, Result.andThen_ok, List.map_toArray, List.map_cons, List.map_nil, hxx, hyy, hrun]
    rw [hexec]
    refine hK _ _ _ _ ⟨[], rfl⟩ (hgrown.put o.dst (dok_spec (s := s) hd) ?_)
    have hmx : grownCap w (T.length + 1) cap e ≤ maxLen := grownCap_le_maxLen w (T.length + 1) cap e (by simp only [maxLen]; omega)
    have := VRep.que (w := w.drew.alloc (.cells (olds.toArray ++ [u].toArray ++ Builtin.zeroCells z.cells (grownCap w (T.length + 1) cap e - (T.length + 1))) e)) (q := qt c ((r, (⟨e, ([] ++ (T ++ [q])).map f, false, 1⟩ : Row)) :: (s.forget r).H) (fun k => if k = r then (w.heap.size, grownCap w (T.length + 1) cap e) else g k)) (g := fun k => if k = r then (w.heap.size, grownCap w (T.length + 1) cap e) else g k) r 1 0 (T.length + 1) (some ⟨w.heap.size, 0, none⟩) (grownCap w (T.length + 1) cap e) hge hmx (fun _ => ⟨by simp, by simp⟩)
    exact this
theorem AL.stq {ops : Array Oper} {rest : List Oper} {X : List α → S} (hg : o.guard = none) (h : Step c o s (fun s' => ∃ pre', s' = X pre')) (hN : ∀ pre', AL c ops rest Q (X pre')) : AL c ops (o :: rest) Q s :=
  AL.step hg fun g a w hs K Q' hK => h g a w hs K Q' fun g' s' a' w' ⟨pre', e⟩ h1 => hK g' s' a' w' (by subst e; exact hN pre') h1
end
theorem Less.cell {s : S} (b j : Nat) (v' : V) {row : Row} {u : V} (hb : fnd s.H b = some row) (hj : row.cells[j]? = some u) (hw : Wk v' u) : Less ⟨s.n, s.T, (b, { row with cells := row.cells.set j v' }) :: s.H, s.K⟩ s := by
  refine ⟨rfl, fun i v h => ⟨v, h, .refl _⟩, fun k row' hk => ?_, fun j v h => ⟨v, h, .refl _⟩⟩
  simp only [fnd] at hk
  split at hk
  · rename_i e
    simp only [beq_iff_eq] at e
    subst e
    simp only [Option.some.injEq] at hk
    subst hk
    refine ⟨row, hb, rfl, rfl, rfl, fun i v hv => ?_⟩
    simp only at hv
    rw [List.getElem?_set] at hv
    split at hv
    · rename_i e
      subst e
      rw [if_pos (List.getElem?_eq_some_iff.1 hj).1] at hv
      simp only [Option.some.injEq] at hv
      subst hv
      exact ⟨u, hj, hw⟩
    · exact ⟨v, hv, .refl _⟩
  · exact ⟨row', hk, rfl, rfl, rfl, fun j v hv => ⟨v, hv, .refl _⟩⟩
end Go.Proofs.Ythlcginebeapdaa
