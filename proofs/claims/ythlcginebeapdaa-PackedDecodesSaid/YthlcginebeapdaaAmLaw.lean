/- From what memory holds of a law's arguments to the walk without worlds, and back from its answer to the call. -/
import Derived.Test.YthlcginebeapdaaAmP
namespace Go.Proofs.Ythlcginebeapdaa
open Go.RowKit
set_option linter.unusedSimpArgs false
set_option linter.unusedVariables false

theorem DRep.of_sl {α : Type} {w : World} {q : Nat → Prop} {sz bt : Nat} {cells : α → List Value} {enc : α → List D} {v : Value} {l : List α} (h : SlAt w sz bt cells v l) (hq : ∀ b, q b) (hsz : 0 < sz) (he : ∀ x, (enc x).length ≤ sz) (hc : ∀ x, (cells x).length = sz)
    (hr : ∀ x ∈ l, ∀ (j : Nat) (u : D) (y : Value), (enc x)[j]? = some u → (cells x)[j]? = some y → DRep w q u y) : DRep w q (.sl sz bt (l.map enc)) v := by
  obtain ⟨a, cap, rfl, hl, hn, hat⟩ := h
  by_cases h0 : l = []
  · subst h0
    have := DRep.sl (w := w) (q := q) sz bt [] a cap 0 0 (fun _ _ => undef) (Nat.zero_le _) (fun h => absurd rfl h) (by simp) (by simp) (by simp)
    simpa using this
  · have hpos : 0 < l.length := by cases l with | nil => exact absurd rfl h0 | cons => simp
    obtain ⟨b, o, x0, rfl, _, hc0⟩ := hat 0 hpos
    have hat' : ∀ i, i < l.length → ∀ x, l[i]? = some x → ∀ j, j < sz → w.cell? ⟨b, o + i * sz + j, none⟩ = (cells x)[j]? := by
      intro i hi x hx j hj
      obtain ⟨b', o', x', hb, hx', hcell⟩ := hat i hi
      simp only [Option.some.injEq, Addr.mk.injEq, and_true] at hb
      obtain ⟨rfl, rfl⟩ := hb
      rw [hx] at hx'
      simp only [Option.some.injEq] at hx'
      subst hx'
      exact hcell j hj
    have hb : b < w.heap.size := by
      have h1 := hat' 0 hpos l[0] (List.getElem?_eq_getElem hpos) 0 hsz
      rw [List.getElem?_eq_getElem (by rw [hc]; omega)] at h1
      exact World.block_lt_of_cell? w _ h1
    have key := DRep.sl (w := w) (q := q) sz bt (l.map enc) (some ⟨b, o, none⟩) cap b o (fun i j => ((l[i]?.map cells).getD []).getD j undef) (by simpa using hn.2) (fun _ => ⟨rfl, hq b, hb⟩) (by simpa using hl) (by
      intro i j row u hi hj
      rw [List.getElem?_map] at hi
      cases hx : l[i]? with
      | none => rw [hx] at hi; cases hi
      | some x =>
        rw [hx] at hi
        simp only [Option.map_some, Option.some.injEq] at hi
        subst hi
        have hj' : j < sz := Nat.lt_of_lt_of_le (List.getElem?_eq_some_iff.1 hj).1 (he x)
        rw [hat' i (List.getElem?_eq_some_iff.1 hx).1 x hx j hj']
        rw [List.getElem?_eq_getElem (by rw [hc]; exact hj')]
        simp [List.getD_eq_getElem?_getD, List.getElem?_eq_getElem (show j < (cells x).length by rw [hc]; exact hj')]) (by
      intro i j row u hi hj
      rw [List.getElem?_map] at hi
      cases hx : l[i]? with
      | none => rw [hx] at hi; cases hi
      | some x =>
        rw [hx] at hi
        simp only [Option.map_some, Option.some.injEq] at hi
        subst hi
        have hj' : j < sz := Nat.lt_of_lt_of_le (List.getElem?_eq_some_iff.1 hj).1 (he x)
        refine hr x (List.mem_of_getElem? hx) j u _ hj ?_
        simp [List.getD_eq_getElem?_getD, List.getElem?_eq_getElem (show j < (cells x).length by rw [hc]; exact hj')])
    simpa using key

theorem rep_arcs {w : World} {q : Nat → Prop} {v : Value} {l : List Ar} (h : ArcsAt w v l) (hq : ∀ b, q b) : DRep w q (arsD l) v :=
  DRep.of_sl h hq (by omega) (fun _ => by simp) arCells_len (fun x _ j u y hu hy => by
    match j, hu, hy with
    | 0, hu, hy => simp [arCells] at hu hy; subst hu hy; exact .p _
    | 1, hu, hy => simp [arCells] at hu hy; subst hu hy; exact .p _
    | 2, hu, hy => simp [arCells] at hu hy; subst hu hy; exact .p _
    | 3, hu, hy => simp [arCells] at hu hy; subst hu hy; exact .p _
    | n + 4, hu, hy => simp at hu)
theorem rep_mach {w : World} {q : Nat → Prop} {g : Nat → Nat × Nat} {v : Value} {m : Mach} (h : MachAt w v m) (hq : ∀ b, q b) : VRep w q g (mV m) v := by
  obtain ⟨sv, rfl, ts, hts, hs, hall⟩ := h
  have h2 : DRep w q (stsD m.states) sv := by
    have := DRep.of_sl (enc := fun x : Int × Value × List Ar => [D.p (.int .i64 x.1), arsD x.2.2]) hs hq (by omega) (fun _ => by simp) stCells_len (fun x hx j u y hu hy => by
      match j, hu, hy with
      | 0, hu, hy => simp [stCells] at hu hy; subst hu hy; exact .p _
      | 1, hu, hy => simp [stCells] at hu hy; subst hu hy; exact rep_arcs (hall x hx) hq
      | n + 2, hu, hy => simp at hu)
    rw [hts]
    simpa [stsD, stD, List.map_map, Function.comp_def] using this
  refine .agg [.i m.start, .d (stsD m.states)] [.int .i64 m.start, sv] rfl fun j u y hu hy => ?_
  match j, hu, hy with
  | 0, hu, hy => simp at hu hy; subst hu hy; exact .d _ _ (.p _)
  | 1, hu, hy => simp at hu hy; subst hu hy; exact .d _ _ h2
  | n + 2, hu, hy => simp at hu
theorem rep_int {w : World} {q : Nat → Prop} {g : Nat → Nat × Nat} {n : Int} : VRep w q g (.i n) (.int .i64 n) := .d _ _ (.p _)
theorem rep_ints {w : World} {q : Nat → Prop} {g : Nat → Nat × Nat} {v : Value} {l : List Int} (h : IntsAt w v l) (hq : ∀ b, q b) : VRep w q g (.d (intsD l)) v :=
  .d _ _ (DRep.of_sl h hq (by omega) (fun _ => by simp) intCells_len (fun x _ j u y hu hy => by
    match j, hu, hy with
    | 0, hu, hy => simp [intCells] at hu hy; subst hu hy; exact .p _
    | n + 1, hu, hy => simp at hu))
theorem reps_nil {w : World} {q : Nat → Prop} {g : Nat → Nat × Nat} : VReps w q g [] [] := ⟨rfl, by simp⟩
theorem reps_cons {w : World} {q : Nat → Prop} {g : Nat → Nat × Nat} {v : V} {x : Value} {vs : List V} {xs : List Value} (h : VRep w q g v x) (hs : VReps w q g vs xs) : VReps w q g (v :: vs) (x :: xs) :=
  ⟨by simp [hs.1], fun j u y hu hy => by
    cases j with
    | zero => simp at hu hy; subst hu hy; exact h
    | succ j => exact hs.2 j u y (by simpa using hu) (by simpa using hy)⟩
/-- A law that answers true. -/
theorem Fn.law {P : Program} {f : FuncId} {args : List V} {xs : List Value} {w : World} (h : Fn P f args (fun v => v = .b true)) (hx : VReps w (fun b => ¬ False) (fun _ => (0, 0)) args xs) : Calls P f xs.toArray w fun e w' => e = .returned (.bool true) ∧ Below w.heap.size w w' :=
  (h w (fun _ => False) (fun _ => (0, 0)) xs (fun _ h => h.elim) hx).mono fun e w' ⟨v, x, h1, h2, _, h4, h5⟩ => by
    subst h2
    rw [h1, VRep.p_eq h4]
    exact ⟨rfl, h5⟩
end Go.Proofs.Ythlcginebeapdaa
