/- A slice of states that is changed in place: a state's cost, one arc more. -/
import Derived.Test.YtnnmdcagbcdfpaaArcs
namespace Go.Proofs.Ytnnmdcagbcdfpaa
open Go.RowKit
set_option linter.unusedSimpArgs false
set_option linter.unusedVariables false

/-- A region that ends in a store; the world behind its draw gets a name. -/
theorem region_any_w {P : Program} {Q : Exit → Act → World → Prop} (S : World → Prop) (z : Nat) {id : Nat} {l : List Oper} {a : Act} {w : World} (n : Nat) (hn : l.length = n) (hm : P.follows .mixedOrders = true) (hS : S w.drew)
    (h : ∀ wd, wd = w.drew → S wd → anyThen P .any l.toArray Q S z n (Array.replicate n false) a wd) : (Code.region id l.toArray true).wp P Q a w :=
  region_any S z n hn hm hS (h _ rfl)
theorem frozen_al {w : World} {b o : Nat} {v : Value} {f : Bool} (hc : w.cell? ⟨b, o, none⟩ = some v) (h : w.frozen? ⟨b, o, none⟩ = f) (x : Obj) : (w.alloc x).frozen? ⟨b, o, none⟩ = f :=
  ((Below.al (Below.refl _ w) x).frozen (p := ⟨b, o, none⟩) (blt hc)).trans h
theorem _root_.Go.World.ownsRow.put {w : World} {base : Nat} {e : TypeId} {sz : Nat} {v : Value} {n : Nat} {xs : List Value} (h : w.ownsRow base e sz v n xs) {g : Nat} (hg : v.ownBlock = some g) {j : Nat} (hj : j < xs.length) (u : Value) :
    (w.setCell ⟨g, j, none⟩ u).ownsRow base e sz v n (xs.set j u) := by
  obtain ⟨h1, h2⟩ := h
  refine ⟨by simpa using h1, ?_⟩
  rcases h2 with ⟨rfl, _⟩ | ⟨g', cap, cur, rfl, hb, hh, hnc, hcm, hcs, ht⟩
  · simp [Value.ownBlock] at hg
  · simp only [Value.ownBlock, Option.some.injEq] at hg
    subst hg
    refine .inr ⟨g', cap, cur.setIfInBounds j u, rfl, hb, Blk.set (T := e) hh j u, hnc, hcm, by simpa using hcs, ?_⟩
    rw [Array.toList_setIfInBounds, List.take_set, ht]

theorem flatMap_put {α : Type} {sz : Nat} {cells : α → List Value} (hne : ∀ x, (cells x).length = sz) : ∀ (l : List α) (i : Nat) (x x' : α) (j : Nat) (u : Value), l[i]? = some x → j < sz → cells x' = (cells x).set j u → (l.flatMap cells).set (i * sz + j) u = (l.set i x').flatMap cells
  | [], _, _, _, _, _, h, _, _ => by simp at h
  | y :: r, 0, x, x', j, u, h, hj, hc => by
    simp only [List.getElem?_cons_zero, Option.some.injEq] at h
    subst h
    simp only [List.flatMap_cons, List.set_cons_zero, Nat.zero_mul, Nat.zero_add]
    rw [List.set_append_left _ _ (by rw [hne]; exact hj), hc]
  | y :: r, i + 1, x, x', j, u, h, hj, hc => by
    simp only [List.flatMap_cons, List.set_cons_succ]
    rw [List.set_append_right _ _ (by rw [hne, Nat.succ_mul]; omega), hne, show (i + 1) * sz + j - sz = i * sz + j by rw [Nat.succ_mul]; omega]
    rw [flatMap_put hne r i x x' j u (by simpa using h) hj hc]

theorem pairwise_put {α : Type} {R : α → α → Prop} {l : List α} (h : l.Pairwise R) (i : Nat) (x' : α) (hx : ∀ j y, l[j]? = some y → j ≠ i → R x' y ∧ R y x') : (l.set i x').Pairwise R := by
  rw [List.pairwise_iff_getElem] at h ⊢
  intro a b ha hb hab
  have ha' : a < l.length := by simpa using ha
  have hb' : b < l.length := by simpa using hb
  by_cases h1 : i = a
  · subst h1
    rw [List.getElem_set_self, List.getElem_set_ne (by omega)]
    exact (hx b _ (List.getElem?_eq_getElem hb') (by omega)).1
  · by_cases h2 : i = b
    · subst h2
      rw [List.getElem_set_self, List.getElem_set_ne (by omega)]
      exact (hx a _ (List.getElem?_eq_getElem ha') (by omega)).2
    · rw [List.getElem_set_ne h1, List.getElem_set_ne h2]
      exact h a b ha' hb' hab

section
variable {w : World} {base : Nat} {sv : Value} {ts : List (Int × Value × List Ar)}
theorem Bld.block (h : Bld w base sv ts) {i : Nat} {x : Int × Value × List Ar} (hx : ts[i]? = some x) : ∃ g cap, sv = .slice (some ⟨g, 0, none⟩) ts.length cap ∧ base ≤ g ∧ g < w.heap.size ∧
    w.cell? ⟨g, i * 2, none⟩ = some (.int .i64 x.1) ∧ w.cell? ⟨g, i * 2 + 1, none⟩ = some x.2.1 ∧ w.frozen? ⟨g, i * 2, none⟩ = false ∧ w.frozen? ⟨g, i * 2 + 1, none⟩ = false := by
  have hlt : i < ts.length := (List.getElem?_eq_some_iff.1 hx).1
  rcases h.own.2 with ⟨_, h0⟩ | ⟨g, cap, cur, rfl, hb, hh, hnc, hcm, hcs, ht⟩
  · omega
  · have hg : g < w.heap.size := (Array.getElem?_eq_some_iff.1 hh).1
    have h0 := flatMap_get stCells_len ts i x hx 0 (by omega)
    have h1 := flatMap_get stCells_len ts i x hx 1 (by omega)
    have c0 := h.own.cells (g := g) rfl (i * 2 + 0) (.int .i64 x.1) (by rw [h0]; rfl)
    have c1 := h.own.cells (g := g) rfl (i * 2 + 1) x.2.1 (by rw [h1]; rfl)
    rw [addr_add] at c0 c1
    simp only [Nat.zero_add, Nat.add_zero] at c0 c1
    exact ⟨g, cap, rfl, hb, hg, c0, c1, frozen_of_row w g _ cur _ hh, frozen_of_row w g _ cur _ hh⟩

/-- A state's cost is written. -/
theorem Bld.setFin (h : Bld w base sv ts) {i : Nat} {f : Int} {av : Value} {l : List Ar} (hx : ts[i]? = some (f, av, l)) {g : Nat} (hg : sv.ownBlock = some g) (f' : Int) : Bld (w.setCell ⟨g, i * 2, none⟩ (.int .i64 f')) base sv (ts.set i (f', av, l)) := by
  have hlt : i < ts.length := (List.getElem?_eq_some_iff.1 hx).1
  have hmem : ∀ y ∈ ts.set i (f', av, l), ∃ z ∈ ts, z.2 = y.2 := by
    intro y hy
    rcases List.mem_or_eq_of_mem_set hy with hy | rfl
    · exact ⟨y, hy, rfl⟩
    · exact ⟨_, List.mem_of_getElem? hx, rfl⟩
  refine ⟨?_, fun y hy => ?_, fun y hy => ?_, fun y hy => ?_, ?_⟩
  · rw [List.length_set, ← flatMap_put stCells_len ts i (f, av, l) (f', av, l) 0 (.int .i64 f') hx (by omega) rfl]
    exact h.own.put hg (by rw [flatMap_len stCells_len]; omega) _
  · obtain ⟨z, hz, e⟩ := hmem y hy
    rw [← e]
    refine (h.arcs z hz).frame fun k hk => Below.heap_setCell _ _ _ _ ?_
    intro e2
    subst e2
    exact h.apart z hz _ hk hg.symm
  · obtain ⟨z, hz, e⟩ := hmem y hy
    rw [← e]; exact h.small z hz
  · obtain ⟨z, hz, e⟩ := hmem y hy
    rw [← e]; exact h.apart z hz
  · refine pairwise_put h.pair i _ fun j y hy hji => ?_
    have hp := List.pairwise_iff_getElem.1 h.pair
    obtain ⟨hjl, rfl⟩ := List.getElem?_eq_some_iff.1 hy
    obtain ⟨_, hxe⟩ := List.getElem?_eq_some_iff.1 hx
    rcases Nat.lt_or_gt_of_ne hji with hlt2 | hgt
    · have := hp j i hjl hlt hlt2
      rw [hxe] at this
      exact ⟨fun k hk e => this k e.symm hk.symm, this⟩
    · have := hp i j hlt hjl hgt
      rw [hxe] at this
      exact ⟨this, fun k hk e => this k e.symm hk.symm⟩

/-- One arc more of a state: the arcs' row has grown, its new value is written. -/
theorem Bld.putArc {W w3 : World} {v3 : Value} {y : Ar} (h : Bld w base sv ts) {i : Nat} {f : Int} {av : Value} {l : List Ar} (hx : ts[i]? = some (f, av, l)) {g : Nat} (hg : sv.ownBlock = some g) (hW : Below w.heap.size w W)
    (own3 : w3.ownsRow base 59 4 v3 (l.length + 1) ((l ++ [y]).flatMap arCells)) (hv3 : ∃ g cap, v3 = .slice (some ⟨g, 0, none⟩) (l.length + 1) cap ∧ (av.ownBlock = some g ∨ g = W.heap.size) ∧ g < w3.heap.size) (gr : W.grownBy w3 av.ownBlock)
    (hl : (l.length + 1) * 32 ≤ 140737488355328) (hbase : base ≤ w.heap.size) :
    Bld (w3.setCell ⟨g, i * 2 + 1, none⟩ v3) base sv (ts.set i (f, v3, l ++ [y])) ∧ Below base w w3 ∧ w3.cell? ⟨g, i * 2 + 1, none⟩ = some av ∧ w3.frozen? ⟨g, i * 2 + 1, none⟩ = false := by
  have hlt : i < ts.length := (List.getElem?_eq_some_iff.1 hx).1
  have hmx := List.mem_of_getElem? hx
  have hs1 := hW.size
  have hs2 := gr.size
  have hgl := h.own.lt g hg
  have hga : some g ≠ av.ownBlock := fun e => h.apart _ hmx g e.symm hg.symm
  have hal : ∀ k, av.ownBlock = some k → base ≤ k ∧ k < w.heap.size := (h.arcs _ hmx).lt
  obtain ⟨b3, c3, rfl, hb3, hb3l⟩ := hv3
  have hb3g : b3 ≠ g := by
    rcases hb3 with e | e
    · rintro rfl; exact hga e.symm
    · omega
  have hp := List.pairwise_iff_getElem.1 h.pair
  have hoth : ∀ j z, ts[j]? = some z → j ≠ i → ∀ k, z.2.1.ownBlock = some k → some k ≠ av.ownBlock ∧ k ≠ b3 := by
    intro j z hz hji k hk
    obtain ⟨hjl, rfl⟩ := List.getElem?_eq_some_iff.1 hz
    obtain ⟨_, hxe⟩ := List.getElem?_eq_some_iff.1 hx
    have h1 : some k ≠ av.ownBlock := by
      rcases Nat.lt_or_gt_of_ne hji with hlt2 | hgt
      · have := hp j i hjl hlt hlt2 k hk
        rwa [hxe] at this
      · intro e
        have := hp i j hlt hjl hgt k (by rw [hxe]; exact e.symm)
        exact this hk.symm
    refine ⟨h1, ?_⟩
    rcases hb3 with e | e
    · rintro rfl; exact h1 e.symm
    · have := ((h.arcs _ (List.getElem_mem hjl)).lt k hk).2; omega
  have own1 : w3.ownsRow base 55 2 sv ts.length (ts.flatMap stCells) := (h.own.below hW).frame fun k hk => by
    have : k = g := by rw [hg] at hk; simpa using hk.symm
    subst this
    exact gr.block k (by omega) hga
  have hother : ∀ j z, ts[j]? = some z → j ≠ i → w3.ownsRow base 59 4 z.2.1 z.2.2.length (z.2.2.flatMap arCells) := fun j z hz hji =>
    ((h.arcs z (List.mem_of_getElem? hz)).below hW).frame fun k hk => gr.block k (by have := ((h.arcs z (List.mem_of_getElem? hz)).lt k hk).2; omega) (hoth j z hz hji k hk).1
  have key : ∀ y' ∈ ts.set i (f, .slice (some ⟨b3, 0, none⟩) (l.length + 1) c3, l ++ [y]), y' = (f, .slice (some ⟨b3, 0, none⟩) (l.length + 1) c3, l ++ [y]) ∨ ∃ j, ts[j]? = some y' ∧ j ≠ i := by
    intro y' hy'
    obtain ⟨j, hj, rfl⟩ := List.mem_iff_getElem.1 hy'
    by_cases hji : i = j
    · subst hji; left; rw [List.getElem_set_self]
    · right; exact ⟨j, by rw [List.getElem_set_ne hji]; exact List.getElem?_eq_getElem (by simpa using hj), fun e => hji e.symm⟩
  have hc1 := own1.cells (g := g) hg (i * 2 + 1) av (by rw [flatMap_get stCells_len ts i _ hx 1 (by omega)]; rfl)
  rw [addr_add, Nat.zero_add] at hc1
  refine ⟨⟨?_, fun y' hy' => ?_, fun y' hy' => ?_, fun y' hy' => ?_, ?_⟩, ?_, hc1, ?_⟩
  · rw [List.length_set, ← flatMap_put stCells_len ts i (f, av, l) _ 1 (.slice (some ⟨b3, 0, none⟩) (l.length + 1) c3) hx (by omega) rfl]
    exact own1.put hg (by rw [flatMap_len stCells_len]; omega) _
  · rcases key y' hy' with rfl | ⟨j, hj, hji⟩
    · rw [List.length_append]
      exact own3.frame fun k hk => Below.heap_setCell _ _ _ _ (by simp only [Value.ownBlock, Option.some.injEq] at hk; subst hk; exact hb3g)
    · exact (hother j y' hj hji).frame fun k hk => Below.heap_setCell _ _ _ _ (fun e => by
        have e' : k = g := e
        subst e'
        exact h.apart _ (List.mem_of_getElem? hj) k hk hg.symm)
  · rcases key y' hy' with rfl | ⟨j, hj, hji⟩
    · rw [List.length_append]; exact hl
    · exact h.small _ (List.mem_of_getElem? hj)
  · rcases key y' hy' with rfl | ⟨j, hj, hji⟩
    · intro k hk
      simp only [Value.ownBlock, Option.some.injEq] at hk
      subst hk
      rw [hg]
      intro e
      exact hb3g (by simpa using e)
    · exact h.apart _ (List.mem_of_getElem? hj)
  · refine pairwise_put h.pair i _ fun j z hz hji => ⟨fun k hk => ?_, fun k hk => ?_⟩
    · simp only [Value.ownBlock, Option.some.injEq] at hk
      subst hk
      intro e
      exact (hoth j z hz hji _ e.symm).2 rfl
    · simp only [Value.ownBlock, ne_eq, Option.some.injEq]
      exact (hoth j z hz hji k hk).2
  · exact (hW.mono hbase).grown gr (by omega) (fun k hk => (hal k hk).1)
  · rcases own1.2 with ⟨_, h0⟩ | ⟨g', cap, cur, rfl, hb, hh, _⟩
    · omega
    · simp only [Value.ownBlock, Option.some.injEq] at hg
      subst hg
      exact frozen_of_row w3 g' _ cur _ hh
end

/-- The plain states of what is being built. -/
def forgets (ts : List (Int × Value × List Ar)) : List St := ts.map fun x => ⟨x.1, x.2.2⟩
def BldM (w : World) (base : Nat) (sv : Value) (l : List St) : Prop := ∃ ts, Bld w base sv ts ∧ forgets ts = l
theorem forgets_get {ts : List (Int × Value × List Ar)} {i : Nat} {s : St} (h : (forgets ts)[i]? = some s) : ∃ av, ts[i]? = some (s.fin, av, s.arcs) := by
  simp only [forgets, List.getElem?_map, Option.map_eq_some_iff] at h
  obtain ⟨⟨f, av, l⟩, h1, rfl⟩ := h
  exact ⟨av, h1⟩
theorem forgets_set (ts : List (Int × Value × List Ar)) (i : Nat) (x : Int × Value × List Ar) : forgets (ts.set i x) = (forgets ts).set i ⟨x.1, x.2.2⟩ := by simp [forgets, List.map_set]
theorem forgets_len (ts : List (Int × Value × List Ar)) : (forgets ts).length = ts.length := by simp [forgets]

/-- One state more: its arcs' row has been laid since wr. -/
theorem push_step2 {wr W w2 : World} {sv v2 : Value} {ts : List (Int × Value × List Ar)} {x : Int × Value × List Ar} {base : Nat} (hz : base ≤ wr.heap.size)
    (HB : Bld wr base sv ts) (hW : Below wr.heap.size wr W) (hx : W.ownsRow base 59 4 x.2.1 x.2.2.length (x.2.2.flatMap arCells)) (hs : x.2.2.length * 32 ≤ 140737488355328) (hap : ∀ k, x.2.1.ownBlock = some k → wr.heap.size ≤ k)
    (hown2 : w2.ownsRow base 55 2 v2 (ts.length + 1) ((ts ++ [x]).flatMap stCells))
    (hv2 : ∃ g cap, v2 = .slice (some ⟨g, 0, none⟩) (ts.length + 1) cap ∧ (sv.ownBlock = some g ∨ g = W.heap.size) ∧ g < w2.heap.size)
    (hgrow2 : W.grownBy w2 sv.ownBlock) : Below base wr w2 ∧ Bld w2 base v2 (ts ++ [x]) := by
  have hs1 : wr.heap.size ≤ W.heap.size := hW.size
  refine ⟨(hW.mono hz).grown hgrow2 (by omega) (fun k hk => (HB.own.lt k hk).1), Bld.push (HB.below hW) x hx hs ?_ hown2 hv2 hgrow2⟩
  intro kk hkk
  have p1 := hap kk hkk
  refine ⟨fun e => ?_, fun y hy e => ?_⟩
  · have := (HB.own.lt kk e.symm).2
    omega
  · have := ((HB.arcs y hy).lt kk e.symm).2
    omega

/-- An old slice does not lie in a row that has been laid since. -/
theorem arc_far {w wi : World} {base : Nat} {b o n cap : Nat} {l : List Ar} {v : Value} {m : Nat} {xs : List Value} {j : Nat} (h : ArcsAt w (.slice (some ⟨b, o, none⟩) n cap) l) (hj : j < n) (own : wi.ownsRow base 59 4 v m xs) (hb : w.heap.size ≤ base) : some b ≠ v.ownBlock := by
  obtain ⟨b', o', y, hbo, _, e0, _⟩ := ArcsAt.at h hj
  simp only [Option.some.injEq, Addr.mk.injEq] at hbo
  obtain ⟨rfl, rfl, _⟩ := hbo
  intro e
  have := (own.lt _ e.symm).1
  have := blt e0
  omega
end Go.Proofs.Ytnnmdcagbcdfpaa
