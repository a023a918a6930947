-- %hmode %mp2
/- sync.Once and the index of a table of names: the call of Do, told by objects. -/
import Derived.Test.YthlcginebeapdaaAmMade
namespace Go.Proofs.Ythlcginebeapdaa
open Go.RowKit
set_option linter.unusedSimpArgs false
set_option linter.unusedVariables false
set_option maxRecDepth 100000

theorem ev_ref {g : Nat → Nat × Nat} {w : World} {r k : Nat} {y : Value} {q : Nat → Prop} (h : VRep w q g (.ref r k) y) : y = .pointer (some ⟨(g r).1, k, none⟩) := by
  cases h; rfl
theorem tup0 {w : World} {q : Nat → Prop} {g : Nat → Nat × Nat} {y : Value} (h : VRep w q g (.tup []) y) : y = .tuple #[] := by
  cases h with
  | tup _ cs hl _ => cases cs with | nil => rfl | cons => simp at hl
theorem less_xH {s : S} {l : List Nm} {d d' m m' : Int} {a b a' b' : V} {H0 : List (Nat × Row)} {row : Row} (hH : H0 = xH l d m a b) (hr : row = idxR l d' m' a' b') : Less ⟨s.n, [], xH l d' m' a' b', s.K⟩ { s with H := (800, row) :: H0 } :=
  ⟨rfl, fun i v h => (by cases h), fun r row' h => (by
    subst hH hr
    by_cases e1 : r = 801
    · subst e1
      simp only [xH, fnd, Nat.reduceBEq, if_true, Option.some.injEq] at h
      subst h
      exact ⟨_, rfl, rfl, rfl, rfl, fun j v hv => ⟨v, hv, .refl _⟩⟩
    · by_cases e2 : r = 800
      · subst e2
        simp [xH, fnd] at h
        subst h
        exact ⟨_, rfl, rfl, rfl, rfl, fun j v hv => ⟨v, hv, .refl _⟩⟩
      · exfalso
        simp [xH, fnd, Ne.symm e1, Ne.symm e2] at h), fun j v h => ⟨v, h, .refl _⟩⟩
theorem less_cut {s : S} {H0 : List (Nat × Row)} (hH : s.H = H0) : Less ⟨s.n, [], H0, s.K⟩ s := by
  subst hH
  exact ⟨rfl, fun i v h => (by cases h), fun r row h => ⟨row, h, rfl, rfl, rfl, fun j v hv => ⟨v, hv, .refl _⟩⟩, fun j v h => ⟨v, h, .refl _⟩⟩
set_option maxHeartbeats 1000000 in
theorem pc_once (l : List Nm) (hb : l.length * 24 ≤ 140737488355328) (ks : List D) (hks : V.mpsL (ks.map V.d) = false) :
    PC Try.prog 55 [.ref 800 1, .fn 56 [.ref 801 0]] (xH l 0 0 nomap nomap) (.ref 801 0 :: ks.map V.d) (fun v H' K' => v = .tup [] ∧ K' = .ref 801 0 :: ks.map V.d ∧ H' = xH l 1 0 (.d (.mp (smap (bldM Nm.t l l.length)))) (.d (.mp (imap (bldM Nm.b l l.length))))) := by
  intro c s o fx xs tys ll ts hP ho hfx hargs hts hH hK hd g a w hs Kc Q hKc
  have hen := en_made1 l hb ks hks
  obtain ⟨P0, w0, out, kx⟩ := c
  obtain rfl : P0 = Try.prog := hP
  obtain ⟨cs, hfv, hcl, _⟩ := fn_eval hs hfx
  obtain rfl : cs = [] := by cases cs with | nil => rfl | cons => simp at hcl
  obtain ⟨hal, haa⟩ := args_eval hs hargs
  obtain ⟨y0, y1, hxs⟩ : ∃ y0 y1, xs.toList.map a.eval = [y0, y1] := by
    match h : xs.toList.map a.eval, hal with
    | [y0, y1], _ => exact ⟨y0, y1, rfl⟩
  rw [hxs] at haa
  have hy0 := ev_ref (haa 0 _ y0 rfl rfl)
  have hy1 : y1 = .func (.func 56) #[] #[.pointer (some ⟨(g 801).1, 0, none⟩)] := by
    have h := haa 1 _ y1 rfl rfl
    cases h with
    | fn _ _ cs hl hh =>
      match cs, hl, hh with
      | [z], _, hh => rw [ev_ref (hh 0 _ z rfl rfl)]
  have hr0 : fnd s.H 800 = some (idxR l 0 0 nomap nomap) := by rw [hH]; rfl
  obtain ⟨arr, h1, _, h2⟩ := hs.obj 800 _ hr0 rfl
  have hc : ∀ (j : Nat) (x : Value), (idxR l 0 0 nomap nomap).cells[j]? = some (.d (.p x)) → w.cell? ⟨(g 800).1, j, none⟩ = some x := by
    intro j x hj
    obtain ⟨y, h3, h4⟩ := h2 j _ hj
    rw [cell_of_row w _ _ _ _ _ h1, h3, VRep.p_eq h4]
  have hfr : ∀ j, w.frozen? ⟨(g 800).1, j, none⟩ = false := fun j => frozen_of_row w _ j _ _ h1
  have hsA := (hs.setCell1 (v := .d (.p (.int .i32 1))) (x := .int .i32 1) (k := 2) hr0 rfl (by simp [idxR]) (.d _ _ (.p _))).less (less_xH (d' := 0) (m' := 1) (a' := nomap) (b' := nomap) hH rfl)
  have hll : ll.length = ts.length := by simpa using congrArg List.length hts
  have hlt : ∀ (j i : Nat) (v : V), ll[j]? = some i → ts[j]? = some v → fnd s.T i = some v := by
    intro j i v h1 h2
    have h3 := congrArg (fun l => l[j]?) hts
    simp only [List.getElem?_map, h1, h2, Option.map_some, Option.some.injEq] at h3
    exact h3
  have hkeep0 : VReps w (qt ⟨Try.prog, w0, out, kx⟩ s.H g) g ts (ll.map (fun i => a.tmps.getD i undef)) := by
    refine ⟨by simp [hll], fun j v x h3 h4 => ?_⟩
    rw [List.getElem?_map] at h4
    cases h5 : ll[j]? with
    | none => rw [h5] at h4; cases h4
    | some i =>
      rw [h5] at h4
      simp only [Option.map_some, Option.some.injEq] at h4
      obtain ⟨y, h6, h7⟩ := hs.tmp i v (hlt j i v h5 h3)
      rw [← h4, Array.getD_eq_getD_getElem?, h6]
      exact h7
  obtain ⟨wA, hwA⟩ : ∃ wA, wA = w.setCell ⟨(g 800).1, 2, none⟩ (.int .i32 1) := ⟨_, rfl⟩
  rw [← hwA] at hsA
  -- what is kept, held in the world in which the closure is called
  have hsB : Sim ⟨Try.prog, w0, out, .pointer (some ⟨(g 800).1, 0, none⟩) :: (ll.map (fun i => a.tmps.getD i undef) ++ kx)⟩ g ⟨0, [], xH l 0 1 nomap nomap, .ref 800 0 :: (ts ++ s.K)⟩ { tmps := #[], defers := [] } wA := by
    have hsK : Sim ⟨Try.prog, w0, out, .pointer (some ⟨(g 800).1, 0, none⟩) :: (ll.map (fun i => a.tmps.getD i undef) ++ kx)⟩ g ⟨0, [], s.H, .ref 800 0 :: (ts ++ s.K)⟩ { tmps := #[], defers := [] } w := by
      refine ⟨rfl, rfl, fun i v h => (by cases h), hs.nul, hs.obj, ?_, hs.inj, hs.base, hs.low, hs.below⟩
      intro j v x h3 h4
      cases j with
      | zero =>
        simp only [List.getElem?_cons_zero, Option.some.injEq] at h3 h4
        subst h3 h4
        exact .ref 800 0
      | succ j =>
        simp only [List.getElem?_cons_succ] at h3 h4
        by_cases hj : j < ts.length
        · rw [List.getElem?_append_left hj] at h3
          rw [List.getElem?_append_left (by simp; omega)] at h4
          exact hkeep0.2 j v x h3 h4
        · rw [List.getElem?_append_right (by omega)] at h3
          rw [List.getElem?_append_right (by simp; omega)] at h4
          refine hs.keep (j - ts.length) v x h3 ?_
          simpa [hll] using h4
    have := (hsK.setCell1 (v := .d (.p (.int .i32 1))) (x := .int .i32 1) (k := 2) hr0 rfl (by simp [idxR]) (.d _ _ (.p _))).less (less_xH (s := ⟨0, [], s.H, .ref 800 0 :: (ts ++ s.K)⟩) (d' := 0) (m' := 1) (a' := nomap) (b' := nomap) hH rfl)
    rw [hwA]
    exact this
  have hen2 : EN Try.prog 56 [.ref 801 0] (xH l 0 1 nomap nomap) ([] ++ (V.ref 800 0 :: (ts ++ s.K))) (fun N v H' K' => v = .tup [] ∧ K' = .ref 800 0 :: .ref 801 0 :: ks.map V.d ∧ H' = xH l 0 1 (.mp2 false 810 811 N (smap (bldM Nm.t l l.length)) (imap (bldM Nm.b l l.length))) (.mp2 true 810 811 N (smap (bldM Nm.t l l.length)) (imap (bldM Nm.b l l.length)))) := by rw [hK]; exact hen
  have hcall := EN.calls (xs := [.pointer (some ⟨(g 801).1, 0, none⟩)]) (kvs := []) hen2 hsB ⟨rfl, fun j u x h3 h4 => by
    match j, h3, h4 with
    | 0, h3, h4 =>
      simp only [List.getElem?_cons_zero, Option.some.injEq] at h3 h4
      subst h3 h4
      exact .ref 801 0⟩ ⟨rfl, fun j u x h3 h4 => by simp at h3⟩
  obtain ⟨R, hR⟩ : ∃ R : World → Prop, R = fun w' => ∃ g1 s1 a1, Sim ⟨Try.prog, w0, out, .pointer (some ⟨(g 800).1, 0, none⟩) :: (ll.map (fun i => a.tmps.getD i undef) ++ kx)⟩ g1 s1 a1 w' ∧ s1.K = .ref 800 0 :: .ref 801 0 :: ks.map V.d ∧ s1.H = xH l 0 1 (.mp2 false 810 811 w0.heap.size (smap (bldM Nm.t l l.length)) (imap (bldM Nm.b l l.length))) (.mp2 true 810 811 w0.heap.size (smap (bldM Nm.t l l.length)) (imap (bldM Nm.b l l.length))) := ⟨_, rfl⟩
  have hcall2 : Calls Try.prog 56 #[.pointer (some ⟨(g 801).1, 0, none⟩)] wA fun e w' => e = .returned (.tuple #[]) ∧ R w' := by
    refine Calls.mono hcall ?_
    rintro e w' ⟨v, x, g1, s1, a1, rfl, h3, h4, rfl, h5, h6⟩
    rw [tup0 h4, hR]
    exact ⟨rfl, g1, s1, a1, h3, h5, h6⟩
  have hRc : ∀ w', R w' → (∀ (j : Nat) (x : Value), (idxR l 0 1 nomap nomap).cells[j]? = some (.d (.p x)) → j < 4 → w'.cell? ⟨(g 800).1, j, none⟩ = some x) ∧ ∀ j, w'.frozen? ⟨(g 800).1, j, none⟩ = false := by
    intro w' hw'
    rw [hR] at hw'
    obtain ⟨g1, s1, a1, h3, h5, h6⟩ := hw'
    have hg : (g1 800).1 = (g 800).1 := by
      have := ev_ref (h3.keep 0 (.ref 800 0) (.pointer (some ⟨(g 800).1, 0, none⟩)) (by rw [h5]; rfl) rfl)
      simp only [Value.pointer.injEq, Option.some.injEq, Addr.mk.injEq, and_true] at this
      exact this.symm
    have hr9 : fnd s1.H 800 = some (idxR l 0 1 (.mp2 false 810 811 w0.heap.size (smap (bldM Nm.t l l.length)) (imap (bldM Nm.b l l.length))) (.mp2 true 810 811 w0.heap.size (smap (bldM Nm.t l l.length)) (imap (bldM Nm.b l l.length)))) := by rw [h6]; rfl
    obtain ⟨ar9, k1, _, k2⟩ := h3.obj 800 _ hr9 rfl
    rw [hg] at k1
    refine ⟨fun j x hj hj4 => ?_, fun j => frozen_of_row w' _ j _ _ k1⟩
    obtain ⟨y, k3, k4⟩ := k2 j (.d (.p x)) (by
      match j, hj4, hj with
      | 0, _, hj => exact hj
      | 1, _, hj => exact hj
      | 2, _, hj => exact hj
      | 3, _, hj => exact hj)
    rw [cell_of_row w' _ _ _ _ _ k1, k3, VRep.p_eq k4]
  have hO : OnceFn 56 (.pointer (some ⟨(g 801).1, 0, none⟩)) (g 800).1 1 w R := ⟨by rw [hwA] at hcall2; exact hcall2, fun w' hw' => ⟨(hRc w' hw').1 1 _ rfl (by omega), (hRc w' hw').2 1⟩, fun w' hw' => ⟨(hRc w' hw').1 2 _ rfl (by omega), (hRc w' hw').2 2⟩⟩
  unfold Oper.wp
  rw [exec_call (caps := []) (c := ⟨Try.prog, w0, out, kx⟩) ⟨Try.func55, rfl, rfl, rfl, rfl⟩ ho hfv, List.append_nil, hxs, hy0, hy1]
  simp only [Oper.upon]
  refine Calls.mono (do_first (g 800).1 1 _ w R hO (hc 1 _ rfl) (hc 2 _ rfl) (hfr 1) (hfr 2)) ?_
  rintro e w' ⟨rfl, w2, hw2, rfl⟩
  have hw2' := hw2
  rw [hR] at hw2'
  obtain ⟨g1, s1, a1, h3, h5, h6⟩ := hw2'
  have hg : (g1 800).1 = (g 800).1 := by
    have := ev_ref (h3.keep 0 (.ref 800 0) (.pointer (some ⟨(g 800).1, 0, none⟩)) (by rw [h5]; rfl) rfl)
    simp only [Value.pointer.injEq, Option.some.injEq, Addr.mk.injEq, and_true] at this
    exact this.symm
  obtain ⟨A, hA⟩ : ∃ A, A = V.mp2 false 810 811 w0.heap.size (smap (bldM Nm.t l l.length)) (imap (bldM Nm.b l l.length)) := ⟨_, rfl⟩
  obtain ⟨B, hB⟩ : ∃ B, B = V.mp2 true 810 811 w0.heap.size (smap (bldM Nm.t l l.length)) (imap (bldM Nm.b l l.length)) := ⟨_, rfl⟩
  rw [← hA, ← hB] at h6
  have hm := (h3.less (less_cut h6)).move (w' := w2.drew) (Below.drew (Below.refl _ _))
  have hm1 := (hm.setCell1 (r := 800) (row := idxR l 0 1 A B) (v := .d (.p (.int .u32 1))) (x := .int .u32 1) (k := 1) rfl rfl (by simp [idxR]) (.d _ _ (.p _))).less (less_xH (s := ⟨s1.n, [], xH l 0 1 A B, s1.K⟩) (d' := 1) (m' := 1) (a' := A) (b' := B) rfl rfl)
  have hm2 := (hm1.setCell1 (r := 800) (row := idxR l 1 1 A B) (v := .d (.p (.int .i32 0))) (x := .int .i32 0) (k := 2) rfl rfl (by simp [idxR]) (.d _ _ (.p _))).less (less_xH (s := ⟨s1.n, [], xH l 1 1 A B, s1.K⟩) (d' := 1) (m' := 0) (a' := A) (b' := B) rfl rfl)
  have h9 := hm2.frz2 (N := w0.heap.size) (Nat.le_refl _)
  rw [hg] at h9
  have hfz : (xH l 1 0 A B).map (fun x => (x.1, rowMap (frz2 w0.heap.size) x.2)) = xH l 1 0 (.d (.mp (smap (bldM Nm.t l l.length)))) (.d (.mp (imap (bldM Nm.b l l.length)))) := by
    subst hA hB
    simp [xH, idxR, rowMap, frz2]
  simp only [List.map_nil] at h9
  rw [hfz, h5, ← hK] at h9
  refine hKc g1 _ _ _ ⟨_, _, _, ⟨rfl, rfl, rfl⟩, rfl⟩ ?_
  refine Sim.put (s := ⟨s.n, ll.zip _, _, List.drop ll.length _⟩) ?_ o.dst (dok_spec (s := s) hd) (.tup [] [] rfl (fun j u x h => by simp at h))
  rw [← hK]
  refine ⟨hs.size, hs.defers, ?_, h9.nul, h9.obj, ?_, h9.inj, h9.base, h9.low, h9.below⟩
  · intro i v hv
    obtain ⟨j, k3, k4⟩ := fnd_zip _ _ i v hv
    have hj : j < ll.length := (List.getElem?_eq_some_iff.1 k3).1
    rw [List.getElem?_append_left (by omega)] at k4
    obtain ⟨y, k6, k7⟩ := hs.tmp i v (hlt j i v k3 k4)
    refine ⟨y, k6, h9.keep (j + 1) v y ?_ ?_⟩
    · simp only [List.getElem?_cons_succ]
      rw [List.getElem?_append_left (by omega)]
      exact k4
    · simp only [List.getElem?_cons_succ]
      rw [List.getElem?_append_left (by simpa using hj)]
      simp [k3, Array.getD_eq_getD_getElem?, k6]
  · intro j v x k3 k4
    refine h9.keep (ll.length + j + 1) v x ?_ ?_
    · simp only [List.getElem?_cons_succ]
      simpa using k3
    · simp only [List.getElem?_cons_succ]
      rw [List.getElem?_append_right (by simp)]
      simpa using k4
end Go.Proofs.Ythlcginebeapdaa
