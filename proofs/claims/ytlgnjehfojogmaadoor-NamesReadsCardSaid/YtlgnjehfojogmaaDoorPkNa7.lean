/- Part 7 of what the law NamesReads rests on. -/
import Derived.Test.YtlgnjehfojogmaaDoorPkNa1
import Derived.Test.YtlgnjehfojogmaaDoorPkNa2
import Derived.Test.YtlgnjehfojogmaaDoorPkNa3
import Derived.Test.YtlgnjehfojogmaaDoorPkNa4
import Derived.Test.YtlgnjehfojogmaaDoorPkNa5
import Derived.Test.YtlgnjehfojogmaaDoorPkNa6
namespace Go.Proofs.YtlgnjehfojogmaaDoor
open Go.RowKit
set_option linter.unusedSimpArgs false
set_option linter.unusedVariables false
set_option maxRecDepth 100000

theorem hasL_vd (r : Nat) (l : List D) : V.hasL r (l.map V.d) = false := by simp [V.hasL_false, V.has]
theorem hasL_vdt (r n : Nat) (l : List D) : V.hasL r ((l.map V.d).take n) = false := by
 rw [V.hasL_false]
 intro v hv
 obtain ⟨d, _, rfl⟩ := List.mem_map.1 (List.mem_of_mem_take hv)
 rfl
/-- A function that works on the objects H, keeping K, entered with arguments ars. -/
def EN (P : Program) (f : FuncId) (ars : List V) (H : List (Nat × Row)) (K : List V) (post : Nat → V → List (Nat × Row) → List V → Prop) : Prop :=
 ∃ fn code n rs, Is P f fn code n rs ∧ ars.length ≤ n ∧ ∀ w0 out kx, AW ⟨P, w0, out, kx, []⟩ code (QP P rs (post w0.heap.size)) ⟨n, enum 0 ars, H, K⟩
theorem EN.intro {P : Program} {f : FuncId} {fn : Func} {code : Code} {n : Nat} {rs : List ResultVar} {ars : List V} {H : List (Nat × Row)} {K : List V} {post : Nat → V → List (Nat × Row) → List V → Prop} (hf : Is P f fn code n rs) (hn : ars.length ≤ n)
  (h : ∀ w0 out kx, AW ⟨P, w0, out, kx, []⟩ code (QP P rs (post w0.heap.size)) ⟨n, enum 0 ars, H, K⟩) : EN P f ars H K post := ⟨_, _, _, _, hf, hn, h⟩
theorem EN.calls {c : Cx} {g : Nat → Nat × Nat} {s : S} {a : Act} {w : World} {f : FuncId} {ars ks : List V} {xs kvs : List Value} {post : Nat → V → List (Nat × Row) → List V → Prop} (h : EN c.P f ars s.H (ks ++ s.K) post) (hs : Sim c g s a w) (hx : VReps w (qt c s.H g) g ars xs) (hk : VReps w (qt c s.H g) g ks kvs) :
  Calls c.P f xs.toArray w fun e w' => ∃ v x g1 s1 a1, e = .returned x ∧ Sim ⟨c.P, c.w0, c.out, kvs ++ c.kx, []⟩ g1 s1 a1 w' ∧ VRep w' (qt c s1.H g1) g1 v x ∧ post c.w0.heap.size v s1.H s1.K := by
 obtain ⟨fn, code, n, rs, hf, hn, h⟩ := h
 obtain ⟨harl, harg⟩ := hx
 obtain ⟨hkl, hkk⟩ := hk
 have hsim : Sim ⟨c.P, c.w0, c.out, kvs ++ c.kx, []⟩ g ⟨n, enum 0 ars, s.H, ks ++ s.K⟩ { tmps := xs.toArray ++ Array.replicate (fn.ntmps - xs.toArray.size) undef, defers := [] } w := by
  refine ⟨?_, rfl, ?_, hs.nul, hs.obj, ?_, hs.inj, hs.base, hs.low, hs.below⟩
  ·simp [hf.ntmps]; omega
  ·intro i v hv
   obtain ⟨_, h2⟩ := fnd_enum _ 0 i v hv
   simp only [Nat.sub_zero] at h2
   have hi : i < xs.length := by
    have := (List.getElem?_eq_some_iff.1 h2).1
    omega
   refine ⟨xs[i], ?_, ?_⟩
   ·rw [hf.ntmps]
    exact enter_get (List.getElem?_eq_getElem hi) (by omega)
   ·exact harg i v _ h2 (List.getElem?_eq_getElem hi)
  ·intro j v x h1 h2
   by_cases hj : j < ks.length
   ·rw [List.getElem?_append_left hj] at h1
    rw [List.getElem?_append_left (by omega)] at h2
    exact hkk j v x h1 h2
   ·rw [List.getElem?_append_right (by omega)] at h1
    rw [List.getElem?_append_right (by omega)] at h2
    exact hs.keep (j - ks.length) v x h1 (by rw [hkl]; exact h2)
 refine calls_of_wp hf.func hf.body (wp_mono (h c.w0 c.out (kvs ++ c.kx) g _ w hsim) fun e a1 w1 hq => ?_)
 obtain ⟨g1, s1, h1, h2⟩ := hq
 have fin : (∃ vs, resL c.P s1 rs vs ∧ post c.w0.heap.size (tupOf vs) s1.H s1.K) →
   a1.defers = [] ∧ ∃ v, (results fn a1.tmps).run c.P w1 = .ok v w1 ∧ ∃ v' x g1 s1 a1, Ending.returned v = .returned x ∧ Sim ⟨c.P, c.w0, c.out, kvs ++ c.kx, []⟩ g1 s1 a1 w1 ∧ VRep w1 (qt c s1.H g1) g1 v' x ∧ post c.w0.heap.size v' s1.H s1.K := by
  rintro ⟨vs, k1, k2⟩
  obtain ⟨x, k3, k4⟩ := run_results (c := ⟨c.P, c.w0, c.out, kvs ++ c.kx, []⟩) hf.results h2 k1
  exact ⟨h2.defers, x, k4, _, x, g1, s1, a1, rfl, h2, k3, k2⟩
 cases e with
 | normal => exact fin h1
 | ret => exact fin h1
 | _ => exact h1.elim

theorem Sim.setCell1 {c : Cx} {g : Nat → Nat × Nat} {s : S} {a : Act} {w : World} (hs : Sim c g s a w) {r k : Nat} {row : Row} {v : V} {x : Value} (hr : fnd s.H r = some row) (hn : row.nil = false) (hk : k < row.cells.length) (hv : VRep w (qt c s.H g) g v x) :
  Sim c g { s with H := (r, { row with cells := row.cells.set k v }) :: s.H } a (w.setCell ⟨(g r).1, k, none⟩ x) := by
 obtain ⟨arr, h1, hz, h2⟩ := hs.obj r row hr hn
 have hlen : k < arr.size := by
  obtain ⟨y, hy, _⟩ := h2 k _ (List.getElem?_eq_getElem hk)
  exact (Array.getElem?_eq_some_iff.1 hy).1
 refine Sim.setRow hs (row' := { row with cells := row.cells.set k v }) (arr' := arr.setIfInBounds k x) hr hn rfl hn rfl (heap_setCell_same _ _ _ _ _ _ h1) (fun b hb => heap_setCell_other _ _ _ _ hb) (by simp [World.setCell]) rfl rfl rfl ?_ ?_
 ·intro arr0 ty h0
  rw [h1] at h0
  simp only [Option.some.injEq, Obj.cells.injEq, and_true] at h0
  obtain ⟨rfl, _⟩ := h0
  simp
 ·intro j u hu
  simp only [List.getElem?_set] at hu
  split at hu
  ·rename_i e
   subst e
   simp only [hk, if_true, Option.some.injEq] at hu
   subst hu
   exact ⟨x, by simp [hlen], hv⟩
  ·rename_i e
   obtain ⟨y, h3, h4⟩ := h2 j u hu
   exact ⟨y, by rw [Array.getElem?_setIfInBounds_ne e]; exact h3, h4⟩

/-- An index, in memory: what stands in the Once's two numbers, and the two maps. -/
def idxR (l : List Nm) (d m : Int) (a b : V) : Row := ⟨128, [.d (nmsD l), .d (.p (.int .u32 d)), .d (.p (.int .i32 m)), .d (.p (.int .u32 0)), a, b], false, 0⟩
def xH (l : List Nm) (d m : Int) (a b : V) : List (Nat × Row) := [(801, ⟨112, [.ref 800 0], false, 0⟩), (800, idxR l d m a b)]
def nomap : V := .d (.p (.map none))
theorem en_made1 (l : List Nm) (hb : l.length * 24 ≤ 140737488355328) (ks : List D) (hks : V.mpsL (ks.map V.d) = false) :
  EN Tryd.prog 91 [.ref 801 0] (xH l 0 1 nomap nomap) (.ref 800 0 :: .ref 801 0 :: ks.map V.d) (fun N v H' K' => v = .tup [] ∧ K' = .ref 800 0 :: .ref 801 0 :: ks.map V.d ∧ H' = xH l 0 1 (.mp2 false 810 811 N (smap (bldM Nm.t l l.length)) (imap (bldM Nm.b l l.length))) (.mp2 true 810 811 N (smap (bldM Nm.t l l.length)) (imap (bldM Nm.b l l.length)))) := by
 obtain ⟨len, hl⟩ : ∃ n, l.length = n := ⟨_, rfl⟩
 rw [hl] at hb ⊢
 refine EN.intro (n := 36) ⟨Tryd.func91, rfl, rfl, rfl, rfl⟩ (by simp) fun w0 out kx => ?_
 unfold xH idxR nomap nmsD
 simp only [enum]
 refine AW.seq ?_
 refine AW.drawT (N := ?N3) (l := #[false, false, false, false, false, false, false, false, false, false]) 10 (by kernel_rfl) rfl rfl ?_ ?_
 rotate_left
 refine AN.br4 (i := 0) (j := 1) (k := 2) (k2 := 3) (by kernel_rfl) ?_ ?_ ?_ ?_
 ·refine BR.mk (l' := #[true, false, false, false, false, false, false, false, false, false]) rfl rfl rfl ?_
  (first | (refine ST.rd rfl (rd_load_ref Tryd.underlying112 rfl rfl rfl rfl rfl rfl) ?_) | (refine ST.rd rfl (rd_load_ad Tryd.underlying112 rfl rfl rfl rfl) ?_) | (refine ST.rd rfl (rd_load_map Tryd.underlying112 rfl rfl rfl rfl rfl rfl (by assumption)) ?_) | (refine ST.rd rfl (rd_load_flat Tryd.underlying112 rfl rfl rfl rfl rfl rfl (fun _ => rfl) (by assumption) rfl) ?_))
  refine AN.br3 (i := 1) (j := 2) (k := 3) (by kernel_rfl) ?_ ?_ ?_
  ·refine BR.mk (l' := #[true, true, false, false, false, false, false, false, false, false]) rfl rfl rfl ?_
   (first | (refine ST.rd rfl (rd_load_ref Tryd.underlying112 rfl rfl rfl rfl rfl rfl) ?_) | (refine ST.rd rfl (rd_load_ad Tryd.underlying112 rfl rfl rfl rfl) ?_) | (refine ST.rd rfl (rd_load_map Tryd.underlying112 rfl rfl rfl rfl rfl rfl (by assumption)) ?_) | (refine ST.rd rfl (rd_load_flat Tryd.underlying112 rfl rfl rfl rfl rfl rfl (fun _ => rfl) (by assumption) rfl) ?_))
   refine AN.br2 (i := 2) (j := 3) (by kernel_rfl) ?_ ?_
   ·refine BR.mk (l' := #[true, true, true, false, false, false, false, false, false, false]) rfl rfl rfl ?_
    (first | (refine ST.sm (sm_makeMap2 true 6 810 811 rfl (by first | rfl | simp [S.clean, S.put, S.newObj, S.forget, V.has, V.hasL, junkIf, setL, V.cs, hasL_i, hasL_vd, hasL_vdt, hasL_d, hasL_b, hasL_s, hasL_n, hasL_rep, hasL_flat, hasL_append, -List.map_set]) rfl rfl rfl) ?_) | (refine ST.sm (sm_makeMap 810 rfl (by first | rfl | simp [S.clean, S.put, S.newObj, S.forget, V.has, V.hasL, junkIf, setL, V.cs, hasL_i, hasL_vd, hasL_vdt, hasL_d, hasL_b, hasL_s, hasL_n, hasL_rep, hasL_flat, hasL_append, -List.map_set]) rfl) ?_))
    try simp only [S.put, List.map_cons, List.map_nil, rowMap, to2_d, to2_ref, to2_own, to2_junk, to2_F, to2_T, List.getElem_toArray, List.getElem_cons_zero, List.getElem_cons_succ, List.set_cons_zero, List.set_cons_succ, Bool.not_true, Bool.not_false, if_true, if_false, Bool.false_eq_true, ↓reduceIte]
    (first | (refine AN.rp (i := 4) (l' := #[true, true, true, false, true, false, false, false, false, false]) rfl rfl rfl (fun _ _ h => h) (by kernel_rfl) rfl (rp_nilCheck rfl rfl) ?_) | (refine AN.rp (i := 4) (l' := #[true, true, true, false, true, false, false, false, false, false]) rfl rfl rfl (fun _ _ h => h) (by kernel_rfl) rfl (rp_nilCheck_ad rfl rfl) ?_))
    (first | (refine AN.rp (i := 5) (l' := #[true, true, true, false, true, true, false, false, false, false]) rfl rfl rfl (fun _ _ h => h) (by kernel_rfl) rfl (rp_field_ref Tryd.underlying128 rfl rfl rfl inf125 (by decide) rfl) ?_) | (refine AN.rp (i := 5) (l' := #[true, true, true, false, true, true, false, false, false, false]) rfl rfl rfl (fun _ _ h => h) (by kernel_rfl) rfl (rp_field_ad Tryd.underlying128 rfl rfl rfl inf125 (by decide) rfl) ?_))
    refine AN.br2 (i := 3) (j := 6) (by kernel_rfl) ?_ ?_
    ·refine BR.mk (l' := #[true, true, true, true, true, true, false, false, false, false]) rfl rfl rfl ?_
     (first | (refine ST.sm (sm_makeMap2 false 5 810 811 rfl (by first | rfl | simp [S.clean, S.put, S.newObj, S.forget, V.has, V.hasL, junkIf, setL, V.cs, hasL_i, hasL_vd, hasL_vdt, hasL_d, hasL_b, hasL_s, hasL_n, hasL_rep, hasL_flat, hasL_append, -List.map_set]) rfl rfl rfl) ?_) | (refine ST.sm (sm_makeMap 811 rfl (by first | rfl | simp [S.clean, S.put, S.newObj, S.forget, V.has, V.hasL, junkIf, setL, V.cs, hasL_i, hasL_vd, hasL_vdt, hasL_d, hasL_b, hasL_s, hasL_n, hasL_rep, hasL_flat, hasL_append, -List.map_set]) rfl) ?_))
     try simp only [S.put, List.map_cons, List.map_nil, rowMap, to2_d, to2_ref, to2_own, to2_junk, to2_F, to2_T, List.getElem_toArray, List.getElem_cons_zero, List.getElem_cons_succ, List.set_cons_zero, List.set_cons_succ, Bool.not_true, Bool.not_false, if_true, if_false, Bool.false_eq_true, ↓reduceIte]
     refine AN.br1 (i := 6) (by kernel_rfl) ?_
     refine BR.mk (l' := #[true, true, true, true, true, true, true, false, false, false]) rfl rfl rfl ?_
     (first | (refine ST.st (st_store_map2 inf125 rfl rfl rfl rfl rfl rfl rfl rfl (by first | assumption | omega)) ?_) | (refine ST.st (st_store inf125 rfl rfl rfl rfl rfl rfl rfl (by first | decide | (simp; done)) rfl) ?_))
     (first | (refine AN.rp (i := 7) (l' := #[true, true, true, true, true, true, true, true, false, false]) rfl rfl rfl (fun _ _ h => h) (by kernel_rfl) rfl (rp_nilCheck rfl rfl) ?_) | (refine AN.rp (i := 7) (l' := #[true, true, true, true, true, true, true, true, false, false]) rfl rfl rfl (fun _ _ h => h) (by kernel_rfl) rfl (rp_nilCheck_ad rfl rfl) ?_))
     (first | (refine AN.rp (i := 8) (l' := #[true, true, true, true, true, true, true, true, true, false]) rfl rfl rfl (fun _ _ h => h) (by kernel_rfl) rfl (rp_field_ref Tryd.underlying128 rfl rfl rfl inf126 (by decide) rfl) ?_) | (refine AN.rp (i := 8) (l' := #[true, true, true, true, true, true, true, true, true, false]) rfl rfl rfl (fun _ _ h => h) (by kernel_rfl) rfl (rp_field_ad Tryd.underlying128 rfl rfl rfl inf126 (by decide) rfl) ?_))
     refine AN.br1 (i := 9) (by kernel_rfl) ?_
     refine BR.mk (l' := #[true, true, true, true, true, true, true, true, true, true]) rfl rfl rfl ?_
     (first | (refine ST.st (st_store_map2 inf126 rfl rfl rfl rfl rfl rfl rfl rfl (by first | assumption | omega)) ?_) | (refine ST.st (st_store inf126 rfl rfl rfl rfl rfl rfl rfl (by first | decide | (simp; done)) rfl) ?_))
     refine AN.nil (by kernel_rfl) ?_
     show Less _ _
     exact Less.dd _
    ·refine BR.mk (l' := #[true, true, true, false, true, true, true, false, false, false]) rfl rfl rfl ?_
     (first | (refine ST.st (st_store_map2 inf125 rfl rfl rfl rfl rfl rfl rfl rfl (by first | assumption | omega)) ?_) | (refine ST.st (st_store inf125 rfl rfl rfl rfl rfl rfl rfl (by first | decide | (simp; done)) rfl) ?_))
     refine AN.br1 (i := 3) (by kernel_rfl) ?_
     refine BR.mk (l' := #[true, true, true, true, true, true, true, false, false, false]) rfl rfl rfl ?_
     (first | (refine ST.sm (sm_makeMap2 false 5 810 811 rfl (by first | rfl | simp [S.clean, S.put, S.newObj, S.forget, V.has, V.hasL, junkIf, setL, V.cs, hasL_i, hasL_vd, hasL_vdt, hasL_d, hasL_b, hasL_s, hasL_n, hasL_rep, hasL_flat, hasL_append, -List.map_set]) rfl rfl rfl) ?_) | (refine ST.sm (sm_makeMap 811 rfl (by first | rfl | simp [S.clean, S.put, S.newObj, S.forget, V.has, V.hasL, junkIf, setL, V.cs, hasL_i, hasL_vd, hasL_vdt, hasL_d, hasL_b, hasL_s, hasL_n, hasL_rep, hasL_flat, hasL_append, -List.map_set]) rfl) ?_))
     try simp only [S.put, List.map_cons, List.map_nil, rowMap, to2_d, to2_ref, to2_own, to2_junk, to2_F, to2_T, List.getElem_toArray, List.getElem_cons_zero, List.getElem_cons_succ, List.set_cons_zero, List.set_cons_succ, Bool.not_true, Bool.not_false, if_true, if_false, Bool.false_eq_true, ↓reduceIte]
     (first | (refine AN.rp (i := 7) (l' := #[true, true, true, true, true, true, true, true, false, false]) rfl rfl rfl (fun _ _ h => h) (by kernel_rfl) rfl (rp_nilCheck rfl rfl) ?_) | (refine AN.rp (i := 7) (l' := #[true, true, true, true, true, true, true, true, false, false]) rfl rfl rfl (fun _ _ h => h) (by kernel_rfl) rfl (rp_nilCheck_ad rfl rfl) ?_))
     (first | (refine AN.rp (i := 8) (l' := #[true, true, true, true, true, true, true, true, true, false]) rfl rfl rfl (fun _ _ h => h) (by kernel_rfl) rfl (rp_field_ref Tryd.underlying128 rfl rfl rfl inf126 (by decide) rfl) ?_) | (refine AN.rp (i := 8) (l' := #[true, true, true, true, true, true, true, true, true, false]) rfl rfl rfl (fun _ _ h => h) (by kernel_rfl) rfl (rp_field_ad Tryd.underlying128 rfl rfl rfl inf126 (by decide) rfl) ?_))
     refine AN.br1 (i := 9) (by kernel_rfl) ?_
     refine BR.mk (l' := #[true, true, true, true, true, true, true, true, true, true]) rfl rfl rfl ?_
     (first | (refine ST.st (st_store_map2 inf126 rfl rfl rfl rfl rfl rfl rfl rfl (by first | assumption | omega)) ?_) | (refine ST.st (st_store inf126 rfl rfl rfl rfl rfl rfl rfl (by first | decide | (simp; done)) rfl) ?_))
     refine AN.nil (by kernel_rfl) ?_
     show Less _ _
     (try simp only [S.put, S.newObj, setL, V.cs, List.length_cons, List.length_nil, List.take_succ_cons, List.take_zero, List.drop_succ_cons, List.drop_zero, List.drop_nil, List.nil_append, List.cons_append, List.append_nil, Nat.zero_add, Nat.reduceAdd, List.map_cons, List.map_nil, List.set_cons_zero, List.set_cons_succ])
     try simp only [S.dd, ddL, List.contains_cons, List.contains_nil, Nat.reduceBEq, beq_self_eq_true, Bool.or_false, Bool.or_true, Bool.false_or, Bool.true_or, Bool.or_self, if_true, if_false, Bool.false_eq_true, ↓reduceIte]
     exact (Less.of rfl (by repeat (first | exact trivial | refine ⟨⟨_, rfl, Wk.refl _⟩, ?_⟩)) (by repeat (first | exact trivial | refine ⟨rfl, ?_⟩)) rfl)
   ·refine BR.mk (l' := #[true, true, false, true, false, false, false, false, false, false]) rfl rfl rfl ?_
    (first | (refine ST.sm (sm_makeMap2 false 5 810 811 rfl (by first | rfl | simp [S.clean, S.put, S.newObj, S.forget, V.has, V.hasL, junkIf, setL, V.cs, hasL_i, hasL_vd, hasL_vdt, hasL_d, hasL_b, hasL_s, hasL_n, hasL_rep, hasL_flat, hasL_append, -List.map_set]) rfl rfl rfl) ?_) | (refine ST.sm (sm_makeMap 811 rfl (by first | rfl | simp [S.clean, S.put, S.newObj, S.forget, V.has, V.hasL, junkIf, setL, V.cs, hasL_i, hasL_vd, hasL_vdt, hasL_d, hasL_b, hasL_s, hasL_n, hasL_rep, hasL_flat, hasL_append, -List.map_set]) rfl) ?_))
    try simp only [S.put, List.map_cons, List.map_nil, rowMap, to2_d, to2_ref, to2_own, to2_junk, to2_F, to2_T, List.getElem_toArray, List.getElem_cons_zero, List.getElem_cons_succ, List.set_cons_zero, List.set_cons_succ, Bool.not_true, Bool.not_false, if_true, if_false, Bool.false_eq_true, ↓reduceIte]
    refine AN.br1 (i := 2) (by kernel_rfl) ?_
    refine BR.mk (l' := #[true, true, true, true, false, false, false, false, false, false]) rfl rfl rfl ?_
    (first | (refine ST.sm (sm_makeMap2 true 6 810 811 rfl (by first | rfl | simp [S.clean, S.put, S.newObj, S.forget, V.has, V.hasL, junkIf, setL, V.cs, hasL_i, hasL_vd, hasL_vdt, hasL_d, hasL_b, hasL_s, hasL_n, hasL_rep, hasL_flat, hasL_append, -List.map_set]) rfl rfl rfl) ?_) | (refine ST.sm (sm_makeMap 810 rfl (by first | rfl | simp [S.clean, S.put, S.newObj, S.forget, V.has, V.hasL, junkIf, setL, V.cs, hasL_i, hasL_vd, hasL_vdt, hasL_d, hasL_b, hasL_s, hasL_n, hasL_rep, hasL_flat, hasL_append, -List.map_set]) rfl) ?_))
    try simp only [S.put, List.map_cons, List.map_nil, rowMap, to2_d, to2_ref, to2_own, to2_junk, to2_F, to2_T, List.getElem_toArray, List.getElem_cons_zero, List.getElem_cons_succ, List.set_cons_zero, List.set_cons_succ, Bool.not_true, Bool.not_false, if_true, if_false, Bool.false_eq_true, ↓reduceIte]
    (first | (refine AN.rp (i := 4) (l' := #[true, true, true, true, true, false, false, false, false, false]) rfl rfl rfl (fun _ _ h => h) (by kernel_rfl) rfl (rp_nilCheck rfl rfl) ?_) | (refine AN.rp (i := 4) (l' := #[true, true, true, true, true, false, false, false, false, false]) rfl rfl rfl (fun _ _ h => h) (by kernel_rfl) rfl (rp_nilCheck_ad rfl rfl) ?_))
    (first | (refine AN.rp (i := 5) (l' := #[true, true, true, true, true, true, false, false, false, false]) rfl rfl rfl (fun _ _ h => h) (by kernel_rfl) rfl (rp_field_ref Tryd.underlying128 rfl rfl rfl inf125 (by decide) rfl) ?_) | (refine AN.rp (i := 5) (l' := #[true, true, true, true, true, true, false, false, false, false]) rfl rfl rfl (fun _ _ h => h) (by kernel_rfl) rfl (rp_field_ad Tryd.underlying128 rfl rfl rfl inf125 (by decide) rfl) ?_))
    refine AN.br1 (i := 6) (by kernel_rfl) ?_
    refine BR.mk (l' := #[true, true, true, true, true, true, true, false, false, false]) rfl rfl rfl ?_
    (first | (refine ST.st (st_store_map2 inf125 rfl rfl rfl rfl rfl rfl rfl rfl (by first | assumption | omega)) ?_) | (refine ST.st (st_store inf125 rfl rfl rfl rfl rfl rfl rfl (by first | decide | (simp; done)) rfl) ?_))
    (first | (refine AN.rp (i := 7) (l' := #[true, true, true, true, true, true, true, true, false, false]) rfl rfl rfl (fun _ _ h => h) (by kernel_rfl) rfl (rp_nilCheck rfl rfl) ?_) | (refine AN.rp (i := 7) (l' := #[true, true, true, true, true, true, true, true, false, false]) rfl rfl rfl (fun _ _ h => h) (by kernel_rfl) rfl (rp_nilCheck_ad rfl rfl) ?_))
    (first | (refine AN.rp (i := 8) (l' := #[true, true, true, true, true, true, true, true, true, false]) rfl rfl rfl (fun _ _ h => h) (by kernel_rfl) rfl (rp_field_ref Tryd.underlying128 rfl rfl rfl inf126 (by decide) rfl) ?_) | (refine AN.rp (i := 8) (l' := #[true, true, true, true, true, true, true, true, true, false]) rfl rfl rfl (fun _ _ h => h) (by kernel_rfl) rfl (rp_field_ad Tryd.underlying128 rfl rfl rfl inf126 (by decide) rfl) ?_))
    refine AN.br1 (i := 9) (by kernel_rfl) ?_
    refine BR.mk (l' := #[true, true, true, true, true, true, true, true, true, true]) rfl rfl rfl ?_
    (first | (refine ST.st (st_store_map2 inf126 rfl rfl rfl rfl rfl rfl rfl rfl (by first | assumption | omega)) ?_) | (refine ST.st (st_store inf126 rfl rfl rfl rfl rfl rfl rfl (by first | decide | (simp; done)) rfl) ?_))
    refine AN.nil (by kernel_rfl) ?_
    show Less _ _
    (try simp only [S.put, S.newObj, setL, V.cs, List.length_cons, List.length_nil, List.take_succ_cons, List.take_zero, List.drop_succ_cons, List.drop_zero, List.drop_nil, List.nil_append, List.cons_append, List.append_nil, Nat.zero_add, Nat.reduceAdd, List.map_cons, List.map_nil, List.set_cons_zero, List.set_cons_succ])
    try simp only [S.dd, ddL, List.contains_cons, List.contains_nil, Nat.reduceBEq, beq_self_eq_true, Bool.or_false, Bool.or_true, Bool.false_or, Bool.true_or, Bool.or_self, if_true, if_false, Bool.false_eq_true, ↓reduceIte]
    exact (Less.of rfl (by repeat (first | exact trivial | refine ⟨⟨_, rfl, Wk.refl _⟩, ?_⟩)) (by repeat (first | exact trivial | refine ⟨rfl, ?_⟩)) rfl)
  ·refine BR.mk (l' := #[true, false, true, false, false, false, false, false, false, false]) rfl rfl rfl ?_
   (first | (refine ST.sm (sm_makeMap2 true 6 810 811 rfl (by first | rfl | simp [S.clean, S.put, S.newObj, S.forget, V.has, V.hasL, junkIf, setL, V.cs, hasL_i, hasL_vd, hasL_vdt, hasL_d, hasL_b, hasL_s, hasL_n, hasL_rep, hasL_flat, hasL_append, -List.map_set]) rfl rfl rfl) ?_) | (refine ST.sm (sm_makeMap 810 rfl (by first | rfl | simp [S.clean, S.put, S.newObj, S.forget, V.has, V.hasL, junkIf, setL, V.cs, hasL_i, hasL_vd, hasL_vdt, hasL_d, hasL_b, hasL_s, hasL_n, hasL_rep, hasL_flat, hasL_append, -List.map_set]) rfl) ?_))
   try simp only [S.put, List.map_cons, List.map_nil, rowMap, to2_d, to2_ref, to2_own, to2_junk, to2_F, to2_T, List.getElem_toArray, List.getElem_cons_zero, List.getElem_cons_succ, List.set_cons_zero, List.set_cons_succ, Bool.not_true, Bool.not_false, if_true, if_false, Bool.false_eq_true, ↓reduceIte]
   (first | (refine AN.rp (i := 4) (l' := #[true, false, true, false, true, false, false, false, false, false]) rfl rfl rfl (fun _ _ h => h) (by kernel_rfl) rfl (rp_nilCheck rfl rfl) ?_) | (refine AN.rp (i := 4) (l' := #[true, false, true, false, true, false, false, false, false, false]) rfl rfl rfl (fun _ _ h => h) (by kernel_rfl) rfl (rp_nilCheck_ad rfl rfl) ?_))
   (first | (refine AN.rp (i := 5) (l' := #[true, false, true, false, true, true, false, false, false, false]) rfl rfl rfl (fun _ _ h => h) (by kernel_rfl) rfl (rp_field_ref Tryd.underlying128 rfl rfl rfl inf125 (by decide) rfl) ?_) | (refine AN.rp (i := 5) (l' := #[true, false, true, false, true, true, false, false, false, false]) rfl rfl rfl (fun _ _ h => h) (by kernel_rfl) rfl (rp_field_ad Tryd.underlying128 rfl rfl rfl inf125 (by decide) rfl) ?_))
   refine AN.br3 (i := 1) (j := 3) (k := 6) (by kernel_rfl) ?_ ?_ ?_
   ·refine BR.mk (l' := #[true, true, true, false, true, true, false, false, false, false]) rfl rfl rfl ?_
    (first | (refine ST.rd rfl (rd_load_ref Tryd.underlying112 rfl rfl rfl rfl rfl rfl) ?_) | (refine ST.rd rfl (rd_load_ad Tryd.underlying112 rfl rfl rfl rfl) ?_) | (refine ST.rd rfl (rd_load_map Tryd.underlying112 rfl rfl rfl rfl rfl rfl (by assumption)) ?_) | (refine ST.rd rfl (rd_load_flat Tryd.underlying112 rfl rfl rfl rfl rfl rfl (fun _ => rfl) (by assumption) rfl) ?_))
    refine AN.br2 (i := 3) (j := 6) (by kernel_rfl) ?_ ?_
    ·refine BR.mk (l' := #[true, true, true, true, true, true, false, false, false, false]) rfl rfl rfl ?_
     (first | (refine ST.sm (sm_makeMap2 false 5 810 811 rfl (by first | rfl | simp [S.clean, S.put, S.newObj, S.forget, V.has, V.hasL, junkIf, setL, V.cs, hasL_i, hasL_vd, hasL_vdt, hasL_d, hasL_b, hasL_s, hasL_n, hasL_rep, hasL_flat, hasL_append, -List.map_set]) rfl rfl rfl) ?_) | (refine ST.sm (sm_makeMap 811 rfl (by first | rfl | simp [S.clean, S.put, S.newObj, S.forget, V.has, V.hasL, junkIf, setL, V.cs, hasL_i, hasL_vd, hasL_vdt, hasL_d, hasL_b, hasL_s, hasL_n, hasL_rep, hasL_flat, hasL_append, -List.map_set]) rfl) ?_))
     try simp only [S.put, List.map_cons, List.map_nil, rowMap, to2_d, to2_ref, to2_own, to2_junk, to2_F, to2_T, List.getElem_toArray, List.getElem_cons_zero, List.getElem_cons_succ, List.set_cons_zero, List.set_cons_succ, Bool.not_true, Bool.not_false, if_true, if_false, Bool.false_eq_true, ↓reduceIte]
     refine AN.br1 (i := 6) (by kernel_rfl) ?_
     refine BR.mk (l' := #[true, true, true, true, true, true, true, false, false, false]) rfl rfl rfl ?_
     (first | (refine ST.st (st_store_map2 inf125 rfl rfl rfl rfl rfl rfl rfl rfl (by first | assumption | omega)) ?_) | (refine ST.st (st_store inf125 rfl rfl rfl rfl rfl rfl rfl (by first | decide | (simp; done)) rfl) ?_))
     (first | (refine AN.rp (i := 7) (l' := #[true, true, true, true, true, true, true, true, false, false]) rfl rfl rfl (fun _ _ h => h) (by kernel_rfl) rfl (rp_nilCheck rfl rfl) ?_) | (refine AN.rp (i := 7) (l' := #[true, true, true, true, true, true, true, true, false, false]) rfl rfl rfl (fun _ _ h => h) (by kernel_rfl) rfl (rp_nilCheck_ad rfl rfl) ?_))
     (first | (refine AN.rp (i := 8) (l' := #[true, true, true, true, true, true, true, true, true, false]) rfl rfl rfl (fun _ _ h => h) (by kernel_rfl) rfl (rp_field_ref Tryd.underlying128 rfl rfl rfl inf126 (by decide) rfl) ?_) | (refine AN.rp (i := 8) (l' := #[true, true, true, true, true, true, true, true, true, false]) rfl rfl rfl (fun _ _ h => h) (by kernel_rfl) rfl (rp_field_ad Tryd.underlying128 rfl rfl rfl inf126 (by decide) rfl) ?_))
     refine AN.br1 (i := 9) (by kernel_rfl) ?_
     refine BR.mk (l' := #[true, true, true, true, true, true, true, true, true, true]) rfl rfl rfl ?_
     (first | (refine ST.st (st_store_map2 inf126 rfl rfl rfl rfl rfl rfl rfl rfl (by first | assumption | omega)) ?_) | (refine ST.st (st_store inf126 rfl rfl rfl rfl rfl rfl rfl (by first | decide | (simp; done)) rfl) ?_))
     refine AN.nil (by kernel_rfl) ?_
     show Less _ _
     (try simp only [S.put, S.newObj, setL, V.cs, List.length_cons, List.length_nil, List.take_succ_cons, List.take_zero, List.drop_succ_cons, List.drop_zero, List.drop_nil, List.nil_append, List.cons_append, List.append_nil, Nat.zero_add, Nat.reduceAdd, List.map_cons, List.map_nil, List.set_cons_zero, List.set_cons_succ])
     try simp only [S.dd, ddL, List.contains_cons, List.contains_nil, Nat.reduceBEq, beq_self_eq_true, Bool.or_false, Bool.or_true, Bool.false_or, Bool.true_or, Bool.or_self, if_true, if_false, Bool.false_eq_true, ↓reduceIte]
     exact (Less.of rfl (by repeat (first | exact trivial | refine ⟨⟨_, rfl, Wk.refl _⟩, ?_⟩)) (by repeat (first | exact trivial | refine ⟨rfl, ?_⟩)) rfl)
    ·refine BR.mk (l' := #[true, true, true, false, true, true, true, false, false, false]) rfl rfl rfl ?_
     (first | (refine ST.st (st_store_map2 inf125 rfl rfl rfl rfl rfl rfl rfl rfl (by first | assumption | omega)) ?_) | (refine ST.st (st_store inf125 rfl rfl rfl rfl rfl rfl rfl (by first | decide | (simp; done)) rfl) ?_))
     refine AN.br1 (i := 3) (by kernel_rfl) ?_
     refine BR.mk (l' := #[true, true, true, true, true, true, true, false, false, false]) rfl rfl rfl ?_
     (first | (refine ST.sm (sm_makeMap2 false 5 810 811 rfl (by first | rfl | simp [S.clean, S.put, S.newObj, S.forget, V.has, V.hasL, junkIf, setL, V.cs, hasL_i, hasL_vd, hasL_vdt, hasL_d, hasL_b, hasL_s, hasL_n, hasL_rep, hasL_flat, hasL_append, -List.map_set]) rfl rfl rfl) ?_) | (refine ST.sm (sm_makeMap 811 rfl (by first | rfl | simp [S.clean, S.put, S.newObj, S.forget, V.has, V.hasL, junkIf, setL, V.cs, hasL_i, hasL_vd, hasL_vdt, hasL_d, hasL_b, hasL_s, hasL_n, hasL_rep, hasL_flat, hasL_append, -List.map_set]) rfl) ?_))
     try simp only [S.put, List.map_cons, List.map_nil, rowMap, to2_d, to2_ref, to2_own, to2_junk, to2_F, to2_T, List.getElem_toArray, List.getElem_cons_zero, List.getElem_cons_succ, List.set_cons_zero, List.set_cons_succ, Bool.not_true, Bool.not_false, if_true, if_false, Bool.false_eq_true, ↓reduceIte]
     (first | (refine AN.rp (i := 7) (l' := #[true, true, true, true, true, true, true, true, false, false]) rfl rfl rfl (fun _ _ h => h) (by kernel_rfl) rfl (rp_nilCheck rfl rfl) ?_) | (refine AN.rp (i := 7) (l' := #[true, true, true, true, true, true, true, true, false, false]) rfl rfl rfl (fun _ _ h => h) (by kernel_rfl) rfl (rp_nilCheck_ad rfl rfl) ?_))
     (first | (refine AN.rp (i := 8) (l' := #[true, true, true, true, true, true, true, true, true, false]) rfl rfl rfl (fun _ _ h => h) (by kernel_rfl) rfl (rp_field_ref Tryd.underlying128 rfl rfl rfl inf126 (by decide) rfl) ?_) | (refine AN.rp (i := 8) (l' := #[true, true, true, true, true, true, true, true, true, false]) rfl rfl rfl (fun _ _ h => h) (by kernel_rfl) rfl (rp_field_ad Tryd.underlying128 rfl rfl rfl inf126 (by decide) rfl) ?_))
     refine AN.br1 (i := 9) (by kernel_rfl) ?_
     refine BR.mk (l' := #[true, true, true, true, true, true, true, true, true, true]) rfl rfl rfl ?_
     (first | (refine ST.st (st_store_map2 inf126 rfl rfl rfl rfl rfl rfl rfl rfl (by first | assumption | omega)) ?_) | (refine ST.st (st_store inf126 rfl rfl rfl rfl rfl rfl rfl (by first | decide | (simp; done)) rfl) ?_))
     refine AN.nil (by kernel_rfl) ?_
     show Less _ _
     (try simp only [S.put, S.newObj, setL, V.cs, List.length_cons, List.length_nil, List.take_succ_cons, List.take_zero, List.drop_succ_cons, List.drop_zero, List.drop_nil, List.nil_append, List.cons_append, List.append_nil, Nat.zero_add, Nat.reduceAdd, List.map_cons, List.map_nil, List.set_cons_zero, List.set_cons_succ])
     try simp only [S.dd, ddL, List.contains_cons, List.contains_nil, Nat.reduceBEq, beq_self_eq_true, Bool.or_false, Bool.or_true, Bool.false_or, Bool.true_or, Bool.or_self, if_true, if_false, Bool.false_eq_true, ↓reduceIte]
     exact (Less.of rfl (by repeat (first | exact trivial | refine ⟨⟨_, rfl, Wk.refl _⟩, ?_⟩)) (by repeat (first | exact trivial | refine ⟨rfl, ?_⟩)) rfl)
   ·refine BR.mk (l' := #[true, false, true, true, true, true, false, false, false, false]) rfl rfl rfl ?_
    (first | (refine ST.sm (sm_makeMap2 false 5 810 811 rfl (by first | rfl | simp [S.clean, S.put, S.newObj, S.forget, V.has, V.hasL, junkIf, setL, V.cs, hasL_i, hasL_vd, hasL_vdt, hasL_d, hasL_b, hasL_s, hasL_n, hasL_rep, hasL_flat, hasL_append, -List.map_set]) rfl rfl rfl) ?_) | (refine ST.sm (sm_makeMap 811 rfl (by first | rfl | simp [S.clean, S.put, S.newObj, S.forget, V.has, V.hasL, junkIf, setL, V.cs, hasL_i, hasL_vd, hasL_vdt, hasL_d, hasL_b, hasL_s, hasL_n, hasL_rep, hasL_flat, hasL_append, -List.map_set]) rfl) ?_))
    try simp only [S.put, List.map_cons, List.map_nil, rowMap, to2_d, to2_ref, to2_own, to2_junk, to2_F, to2_T, List.getElem_toArray, List.getElem_cons_zero, List.getElem_cons_succ, List.set_cons_zero, List.set_cons_succ, Bool.not_true, Bool.not_false, if_true, if_false, Bool.false_eq_true, ↓reduceIte]
    refine AN.br2 (i := 1) (j := 6) (by kernel_rfl) ?_ ?_
    ·refine BR.mk (l' := #[true, true, true, true, true, true, false, false, false, false]) rfl rfl rfl ?_
     (first | (refine ST.rd rfl (rd_load_ref Tryd.underlying112 rfl rfl rfl rfl rfl rfl) ?_) | (refine ST.rd rfl (rd_load_ad Tryd.underlying112 rfl rfl rfl rfl) ?_) | (refine ST.rd rfl (rd_load_map Tryd.underlying112 rfl rfl rfl rfl rfl rfl (by assumption)) ?_) | (refine ST.rd rfl (rd_load_flat Tryd.underlying112 rfl rfl rfl rfl rfl rfl (fun _ => rfl) (by assumption) rfl) ?_))
     refine AN.br1 (i := 6) (by kernel_rfl) ?_
     refine BR.mk (l' := #[true, true, true, true, true, true, true, false, false, false]) rfl rfl rfl ?_
     (first | (refine ST.st (st_store_map2 inf125 rfl rfl rfl rfl rfl rfl rfl rfl (by first | assumption | omega)) ?_) | (refine ST.st (st_store inf125 rfl rfl rfl rfl rfl rfl rfl (by first | decide | (simp; done)) rfl) ?_))
     (first | (refine AN.rp (i := 7) (l' := #[true, true, true, true, true, true, true, true, false, false]) rfl rfl rfl (fun _ _ h => h) (by kernel_rfl) rfl (rp_nilCheck rfl rfl) ?_) | (refine AN.rp (i := 7) (l' := #[true, true, true, true, true, true, true, true, false, false]) rfl rfl rfl (fun _ _ h => h) (by kernel_rfl) rfl (rp_nilCheck_ad rfl rfl) ?_))
     (first | (refine AN.rp (i := 8) (l' := #[true, true, true, true, true, true, true, true, true, false]) rfl rfl rfl (fun _ _ h => h) (by kernel_rfl) rfl (rp_field_ref Tryd.underlying128 rfl rfl rfl inf126 (by decide) rfl) ?_) | (refine AN.rp (i := 8) (l' := #[true, true, true, true, true, true, true, true, true, false]) rfl rfl rfl (fun _ _ h => h) (by kernel_rfl) rfl (rp_field_ad Tryd.underlying128 rfl rfl rfl inf126 (by decide) rfl) ?_))
     refine AN.br1 (i := 9) (by kernel_rfl) ?_
     refine BR.mk (l' := #[true, true, true, true, true, true, true, true, true, true]) rfl rfl rfl ?_
     (first | (refine ST.st (st_store_map2 inf126 rfl rfl rfl rfl rfl rfl rfl rfl (by first | assumption | omega)) ?_) | (refine ST.st (st_store inf126 rfl rfl rfl rfl rfl rfl rfl (by first | decide | (simp; done)) rfl) ?_))
     refine AN.nil (by kernel_rfl) ?_
     show Less _ _
     (try simp only [S.put, S.newObj, setL, V.cs, List.length_cons, List.length_nil, List.take_succ_cons, List.take_zero, List.drop_succ_cons, List.drop_zero, List.drop_nil, List.nil_append, List.cons_append, List.append_nil, Nat.zero_add, Nat.reduceAdd, List.map_cons, List.map_nil, List.set_cons_zero, List.set_cons_succ])
     try simp only [S.dd, ddL, List.contains_cons, List.contains_nil, Nat.reduceBEq, beq_self_eq_true, Bool.or_false, Bool.or_true, Bool.false_or, Bool.true_or, Bool.or_self, if_true, if_false, Bool.false_eq_true, ↓reduceIte]
     exact (Less.of rfl (by repeat (first | exact trivial | refine ⟨⟨_, rfl, Wk.refl _⟩, ?_⟩)) (by repeat (first | exact trivial | refine ⟨rfl, ?_⟩)) rfl)
    ·refine BR.mk (l' := #[true, false, true, true, true, true, true, false, false, false]) rfl rfl rfl ?_
     (first | (refine ST.st (st_store_map2 inf125 rfl rfl rfl rfl rfl rfl rfl rfl (by first | assumption | omega)) ?_) | (refine ST.st (st_store inf125 rfl rfl rfl rfl rfl rfl rfl (by first | decide | (simp; done)) rfl) ?_))
     refine AN.br1 (i := 1) (by kernel_rfl) ?_
     refine BR.mk (l' := #[true, true, true, true, true, true, true, false, false, false]) rfl rfl rfl ?_
     (first | (refine ST.rd rfl (rd_load_ref Tryd.underlying112 rfl rfl rfl rfl rfl rfl) ?_) | (refine ST.rd rfl (rd_load_ad Tryd.underlying112 rfl rfl rfl rfl) ?_) | (refine ST.rd rfl (rd_load_map Tryd.underlying112 rfl rfl rfl rfl rfl rfl (by assumption)) ?_) | (refine ST.rd rfl (rd_load_flat Tryd.underlying112 rfl rfl rfl rfl rfl rfl (fun _ => rfl) (by assumption) rfl) ?_))
     (first | (refine AN.rp (i := 7) (l' := #[true, true, true, true, true, true, true, true, false, false]) rfl rfl rfl (fun _ _ h => h) (by kernel_rfl) rfl (rp_nilCheck rfl rfl) ?_) | (refine AN.rp (i := 7) (l' := #[true, true, true, true, true, true, true, true, false, false]) rfl rfl rfl (fun _ _ h => h) (by kernel_rfl) rfl (rp_nilCheck_ad rfl rfl) ?_))
     (first | (refine AN.rp (i := 8) (l' := #[true, true, true, true, true, true, true, true, true, false]) rfl rfl rfl (fun _ _ h => h) (by kernel_rfl) rfl (rp_field_ref Tryd.underlying128 rfl rfl rfl inf126 (by decide) rfl) ?_) | (refine AN.rp (i := 8) (l' := #[true, true, true, true, true, true, true, true, true, false]) rfl rfl rfl (fun _ _ h => h) (by kernel_rfl) rfl (rp_field_ad Tryd.underlying128 rfl rfl rfl inf126 (by decide) rfl) ?_))
     refine AN.br1 (i := 9) (by kernel_rfl) ?_
     refine BR.mk (l' := #[true, true, true, true, true, true, true, true, true, true]) rfl rfl rfl ?_
     (first | (refine ST.st (st_store_map2 inf126 rfl rfl rfl rfl rfl rfl rfl rfl (by first | assumption | omega)) ?_) | (refine ST.st (st_store inf126 rfl rfl rfl rfl rfl rfl rfl (by first | decide | (simp; done)) rfl) ?_))
     refine AN.nil (by kernel_rfl) ?_
     show Less _ _
     (try simp only [S.put, S.newObj, setL, V.cs, List.length_cons, List.length_nil, List.take_succ_cons, List.take_zero, List.drop_succ_cons, List.drop_zero, List.drop_nil, List.nil_append, List.cons_append, List.append_nil, Nat.zero_add, Nat.reduceAdd, List.map_cons, List.map_nil, List.set_cons_zero, List.set_cons_succ])
     try simp only [S.dd, ddL, List.contains_cons, List.contains_nil, Nat.reduceBEq, beq_self_eq_true, Bool.or_false, Bool.or_true, Bool.false_or, Bool.true_or, Bool.or_self, if_true, if_false, Bool.false_eq_true, ↓reduceIte]
     exact (Less.of rfl (by repeat (first | exact trivial | refine ⟨⟨_, rfl, Wk.refl _⟩, ?_⟩)) (by repeat (first | exact trivial | refine ⟨rfl, ?_⟩)) rfl)
   ·refine BR.mk (l' := #[true, false, true, false, true, true, true, false, false, false]) rfl rfl rfl ?_
    (first | (refine ST.st (st_store_map2 inf125 rfl rfl rfl rfl rfl rfl rfl rfl (by first | assumption | omega)) ?_) | (refine ST.st (st_store inf125 rfl rfl rfl rfl rfl rfl rfl (by first | decide | (simp; done)) rfl) ?_))
    refine AN.br2 (i := 1) (j := 3) (by kernel_rfl) ?_ ?_
    ·refine BR.mk (l' := #[true, true, true, false, true, true, true, false, false, false]) rfl rfl rfl ?_
     (first | (refine ST.rd rfl (rd_load_ref Tryd.underlying112 rfl rfl rfl rfl rfl rfl) ?_) | (refine ST.rd rfl (rd_load_ad Tryd.underlying112 rfl rfl rfl rfl) ?_) | (refine ST.rd rfl (rd_load_map Tryd.underlying112 rfl rfl rfl rfl rfl rfl (by assumption)) ?_) | (refine ST.rd rfl (rd_load_flat Tryd.underlying112 rfl rfl rfl rfl rfl rfl (fun _ => rfl) (by assumption) rfl) ?_))
     refine AN.br1 (i := 3) (by kernel_rfl) ?_
     refine BR.mk (l' := #[true, true, true, true, true, true, true, false, false, false]) rfl rfl rfl ?_
     (first | (refine ST.sm (sm_makeMap2 false 5 810 811 rfl (by first | rfl | simp [S.clean, S.put, S.newObj, S.forget, V.has, V.hasL, junkIf, setL, V.cs, hasL_i, hasL_vd, hasL_vdt, hasL_d, hasL_b, hasL_s, hasL_n, hasL_rep, hasL_flat, hasL_append, -List.map_set]) rfl rfl rfl) ?_) | (refine ST.sm (sm_makeMap 811 rfl (by first | rfl | simp [S.clean, S.put, S.newObj, S.forget, V.has, V.hasL, junkIf, setL, V.cs, hasL_i, hasL_vd, hasL_vdt, hasL_d, hasL_b, hasL_s, hasL_n, hasL_rep, hasL_flat, hasL_append, -List.map_set]) rfl) ?_))
     try simp only [S.put, List.map_cons, List.map_nil, rowMap, to2_d, to2_ref, to2_own, to2_junk, to2_F, to2_T, List.getElem_toArray, List.getElem_cons_zero, List.getElem_cons_succ, List.set_cons_zero, List.set_cons_succ, Bool.not_true, Bool.not_false, if_true, if_false, Bool.false_eq_true, ↓reduceIte]
     (first | (refine AN.rp (i := 7) (l' := #[true, true, true, true, true, true, true, true, false, false]) rfl rfl rfl (fun _ _ h => h) (by kernel_rfl) rfl (rp_nilCheck rfl rfl) ?_) | (refine AN.rp (i := 7) (l' := #[true, true, true, true, true, true, true, true, false, false]) rfl rfl rfl (fun _ _ h => h) (by kernel_rfl) rfl (rp_nilCheck_ad rfl rfl) ?_))
     (first | (refine AN.rp (i := 8) (l' := #[true, true, true, true, true, true, true, true, true, false]) rfl rfl rfl (fun _ _ h => h) (by kernel_rfl) rfl (rp_field_ref Tryd.underlying128 rfl rfl rfl inf126 (by decide) rfl) ?_) | (refine AN.rp (i := 8) (l' := #[true, true, true, true, true, true, true, true, true, false]) rfl rfl rfl (fun _ _ h => h) (by kernel_rfl) rfl (rp_field_ad Tryd.underlying128 rfl rfl rfl inf126 (by decide) rfl) ?_))
     refine AN.br1 (i := 9) (by kernel_rfl) ?_
     refine BR.mk (l' := #[true, true, true, true, true, true, true, true, true, true]) rfl rfl rfl ?_
     (first | (refine ST.st (st_store_map2 inf126 rfl rfl rfl rfl rfl rfl rfl rfl (by first | assumption | omega)) ?_) | (refine ST.st (st_store inf126 rfl rfl rfl rfl rfl rfl rfl (by first | decide | (simp; done)) rfl) ?_))
     refine AN.nil (by kernel_rfl) ?_
     show Less _ _
     (try simp only [S.put, S.newObj, setL, V.cs, List.length_cons, List.length_nil, List.take_succ_cons, List.take_zero, List.drop_succ_cons, List.drop_zero, List.drop_nil, List.nil_append, List.cons_append, List.append_nil, Nat.zero_add, Nat.reduceAdd, List.map_cons, List.map_nil, List.set_cons_zero, List.set_cons_succ])
     try simp only [S.dd, ddL, List.contains_cons, List.contains_nil, Nat.reduceBEq, beq_self_eq_true, Bool.or_false, Bool.or_true, Bool.false_or, Bool.true_or, Bool.or_self, if_true, if_false, Bool.false_eq_true, ↓reduceIte]
     exact (Less.of rfl (by repeat (first | exact trivial | refine ⟨⟨_, rfl, Wk.refl _⟩, ?_⟩)) (by repeat (first | exact trivial | refine ⟨rfl, ?_⟩)) rfl)
    ·refine BR.mk (l' := #[true, false, true, true, true, true, true, false, false, false]) rfl rfl rfl ?_
     (first | (refine ST.sm (sm_makeMap2 false 5 810 811 rfl (by first | rfl | simp [S.clean, S.put, S.newObj, S.forget, V.has, V.hasL, junkIf, setL, V.cs, hasL_i, hasL_vd, hasL_vdt, hasL_d, hasL_b, hasL_s, hasL_n, hasL_rep, hasL_flat, hasL_append, -List.map_set]) rfl rfl rfl) ?_) | (refine ST.sm (sm_makeMap 811 rfl (by first | rfl | simp [S.clean, S.put, S.newObj, S.forget, V.has, V.hasL, junkIf, setL, V.cs, hasL_i, hasL_vd, hasL_vdt, hasL_d, hasL_b, hasL_s, hasL_n, hasL_rep, hasL_flat, hasL_append, -List.map_set]) rfl) ?_))
     try simp only [S.put, List.map_cons, List.map_nil, rowMap, to2_d, to2_ref, to2_own, to2_junk, to2_F, to2_T, List.getElem_toArray, List.getElem_cons_zero, List.getElem_cons_succ, List.set_cons_zero, List.set_cons_succ, Bool.not_true, Bool.not_false, if_true, if_false, Bool.false_eq_true, ↓reduceIte]
     refine AN.br1 (i := 1) (by kernel_rfl) ?_
     refine BR.mk (l' := #[true, true, true, true, true, true, true, false, false, false]) rfl rfl rfl ?_
     (first | (refine ST.rd rfl (rd_load_ref Tryd.underlying112 rfl rfl rfl rfl rfl rfl) ?_) | (refine ST.rd rfl (rd_load_ad Tryd.underlying112 rfl rfl rfl rfl) ?_) | (refine ST.rd rfl (rd_load_map Tryd.underlying112 rfl rfl rfl rfl rfl rfl (by assumption)) ?_) | (refine ST.rd rfl (rd_load_flat Tryd.underlying112 rfl rfl rfl rfl rfl rfl (fun _ => rfl) (by assumption) rfl) ?_))
     (first | (refine AN.rp (i := 7) (l' := #[true, true, true, true, true, true, true, true, false, false]) rfl rfl rfl (fun _ _ h => h) (by kernel_rfl) rfl (rp_nilCheck rfl rfl) ?_) | (refine AN.rp (i := 7) (l' := #[true, true, true, true, true, true, true, true, false, false]) rfl rfl rfl (fun _ _ h => h) (by kernel_rfl) rfl (rp_nilCheck_ad rfl rfl) ?_))
     (first | (refine AN.rp (i := 8) (l' := #[true, true, true, true, true, true, true, true, true, false]) rfl rfl rfl (fun _ _ h => h) (by kernel_rfl) rfl (rp_field_ref Tryd.underlying128 rfl rfl rfl inf126 (by decide) rfl) ?_) | (refine AN.rp (i := 8) (l' := #[true, true, true, true, true, true, true, true, true, false]) rfl rfl rfl (fun _ _ h => h) (by kernel_rfl) rfl (rp_field_ad Tryd.underlying128 rfl rfl rfl inf126 (by decide) rfl) ?_))
     refine AN.br1 (i := 9) (by kernel_rfl) ?_
     refine BR.mk (l' := #[true, true, true, true, true, true, true, true, true, true]) rfl rfl rfl ?_
     (first | (refine ST.st (st_store_map2 inf126 rfl rfl rfl rfl rfl rfl rfl rfl (by first | assumption | omega)) ?_) | (refine ST.st (st_store inf126 rfl rfl rfl rfl rfl rfl rfl (by first | decide | (simp; done)) rfl) ?_))
     refine AN.nil (by kernel_rfl) ?_
     show Less _ _
     (try simp only [S.put, S.newObj, setL, V.cs, List.length_cons, List.length_nil, List.take_succ_cons, List.take_zero, List.drop_succ_cons, List.drop_zero, List.drop_nil, List.nil_append, List.cons_append, List.append_nil, Nat.zero_add, Nat.reduceAdd, List.map_cons, List.map_nil, List.set_cons_zero, List.set_cons_succ])
     try simp only [S.dd, ddL, List.contains_cons, List.contains_nil, Nat.reduceBEq, beq_self_eq_true, Bool.or_false, Bool.or_true, Bool.false_or, Bool.true_or, Bool.or_self, if_true, if_false, Bool.false_eq_true, ↓reduceIte]
     exact (Less.of rfl (by repeat (first | exact trivial | refine ⟨⟨_, rfl, Wk.refl _⟩, ?_⟩)) (by repeat (first | exact trivial | refine ⟨rfl, ?_⟩)) rfl)
  ·refine BR.mk (l' := #[true, false, false, true, false, false, false, false, false, false]) rfl rfl rfl ?_
   (first | (refine ST.sm (sm_makeMap2 false 5 810 811 rfl (by first | rfl | simp [S.clean, S.put, S.newObj, S.forget, V.has, V.hasL, junkIf, setL, V.cs, hasL_i, hasL_vd, hasL_vdt, hasL_d, hasL_b, hasL_s, hasL_n, hasL_rep, hasL_flat, hasL_append, -List.map_set]) rfl rfl rfl) ?_) | (refine ST.sm (sm_makeMap 811 rfl (by first | rfl | simp [S.clean, S.put, S.newObj, S.forget, V.has, V.hasL, junkIf, setL, V.cs, hasL_i, hasL_vd, hasL_vdt, hasL_d, hasL_b, hasL_s, hasL_n, hasL_rep, hasL_flat, hasL_append, -List.map_set]) rfl) ?_))
   try simp only [S.put, List.map_cons, List.map_nil, rowMap, to2_d, to2_ref, to2_own, to2_junk, to2_F, to2_T, List.getElem_toArray, List.getElem_cons_zero, List.getElem_cons_succ, List.set_cons_zero, List.set_cons_succ, Bool.not_true, Bool.not_false, if_true, if_false, Bool.false_eq_true, ↓reduceIte]
   refine AN.br2 (i := 1) (j := 2) (by kernel_rfl) ?_ ?_
   ·refine BR.mk (l' := #[true, true, false, true, false, false, false, false, false, false]) rfl rfl rfl ?_
    (first | (refine ST.rd rfl (rd_load_ref Tryd.underlying112 rfl rfl rfl rfl rfl rfl) ?_) | (refine ST.rd rfl (rd_load_ad Tryd.underlying112 rfl rfl rfl rfl) ?_) | (refine ST.rd rfl (rd_load_map Tryd.underlying112 rfl rfl rfl rfl rfl rfl (by assumption)) ?_) | (refine ST.rd rfl (rd_load_flat Tryd.underlying112 rfl rfl rfl rfl rfl rfl (fun _ => rfl) (by assumption) rfl) ?_))
    refine AN.br1 (i := 2) (by kernel_rfl) ?_
    refine BR.mk (l' := #[true, true, true, true, false, false, false, false, false, false]) rfl rfl rfl ?_
    (first | (refine ST.sm (sm_makeMap2 true 6 810 811 rfl (by first | rfl | simp [S.clean, S.put, S.newObj, S.forget, V.has, V.hasL, junkIf, setL, V.cs, hasL_i, hasL_vd, hasL_vdt, hasL_d, hasL_b, hasL_s, hasL_n, hasL_rep, hasL_flat, hasL_append, -List.map_set]) rfl rfl rfl) ?_) | (refine ST.sm (sm_makeMap 810 rfl (by first | rfl | simp [S.clean, S.put, S.newObj, S.forget, V.has, V.hasL, junkIf, setL, V.cs, hasL_i, hasL_vd, hasL_vdt, hasL_d, hasL_b, hasL_s, hasL_n, hasL_rep, hasL_flat, hasL_append, -List.map_set]) rfl) ?_))
    try simp only [S.put, List.map_cons, List.map_nil, rowMap, to2_d, to2_ref, to2_own, to2_junk, to2_F, to2_T, List.getElem_toArray, List.getElem_cons_zero, List.getElem_cons_succ, List.set_cons_zero, List.set_cons_succ, Bool.not_true, Bool.not_false, if_true, if_false, Bool.false_eq_true, ↓reduceIte]
    (first | (refine AN.rp (i := 4) (l' := #[true, true, true, true, true, false, false, false, false, false]) rfl rfl rfl (fun _ _ h => h) (by kernel_rfl) rfl (rp_nilCheck rfl rfl) ?_) | (refine AN.rp (i := 4) (l' := #[true, true, true, true, true, false, false, false, false, false]) rfl rfl rfl (fun _ _ h => h) (by kernel_rfl) rfl (rp_nilCheck_ad rfl rfl) ?_))
    (first | (refine AN.rp (i := 5) (l' := #[true, true, true, true, true, true, false, false, false, false]) rfl rfl rfl (fun _ _ h => h) (by kernel_rfl) rfl (rp_field_ref Tryd.underlying128 rfl rfl rfl inf125 (by decide) rfl) ?_) | (refine AN.rp (i := 5) (l' := #[true, true, true, true, true, true, false, false, false, false]) rfl rfl rfl (fun _ _ h => h) (by kernel_rfl) rfl (rp_field_ad Tryd.underlying128 rfl rfl rfl inf125 (by decide) rfl) ?_))
    refine AN.br1 (i := 6) (by kernel_rfl) ?_
    refine BR.mk (l' := #[true, true, true, true, true, true, true, false, false, false]) rfl rfl rfl ?_
    (first | (refine ST.st (st_store_map2 inf125 rfl rfl rfl rfl rfl rfl rfl rfl (by first | assumption | omega)) ?_) | (refine ST.st (st_store inf125 rfl rfl rfl rfl rfl rfl rfl (by first | decide | (simp; done)) rfl) ?_))
    (first | (refine AN.rp (i := 7) (l' := #[true, true, true, true, true, true, true, true, false, false]) rfl rfl rfl (fun _ _ h => h) (by kernel_rfl) rfl (rp_nilCheck rfl rfl) ?_) | (refine AN.rp (i := 7) (l' := #[true, true, true, true, true, true, true, true, false, false]) rfl rfl rfl (fun _ _ h => h) (by kernel_rfl) rfl (rp_nilCheck_ad rfl rfl) ?_))
    (first | (refine AN.rp (i := 8) (l' := #[true, true, true, true, true, true, true, true, true, false]) rfl rfl rfl (fun _ _ h => h) (by kernel_rfl) rfl (rp_field_ref Tryd.underlying128 rfl rfl rfl inf126 (by decide) rfl) ?_) | (refine AN.rp (i := 8) (l' := #[true, true, true, true, true, true, true, true, true, false]) rfl rfl rfl (fun _ _ h => h) (by kernel_rfl) rfl (rp_field_ad Tryd.underlying128 rfl rfl rfl inf126 (by decide) rfl) ?_))
    refine AN.br1 (i := 9) (by kernel_rfl) ?_
    refine BR.mk (l' := #[true, true, true, true, true, true, true, true, true, true]) rfl rfl rfl ?_
    (first | (refine ST.st (st_store_map2 inf126 rfl rfl rfl rfl rfl rfl rfl rfl (by first | assumption | omega)) ?_) | (refine ST.st (st_store inf126 rfl rfl rfl rfl rfl rfl rfl (by first | decide | (simp; done)) rfl) ?_))
    refine AN.nil (by kernel_rfl) ?_
    show Less _ _
    (try simp only [S.put, S.newObj, setL, V.cs, List.length_cons, List.length_nil, List.take_succ_cons, List.take_zero, List.drop_succ_cons, List.drop_zero, List.drop_nil, List.nil_append, List.cons_append, List.append_nil, Nat.zero_add, Nat.reduceAdd, List.map_cons, List.map_nil, List.set_cons_zero, List.set_cons_succ])
    try simp only [S.dd, ddL, List.contains_cons, List.contains_nil, Nat.reduceBEq, beq_self_eq_true, Bool.or_false, Bool.or_true, Bool.false_or, Bool.true_or, Bool.or_self, if_true, if_false, Bool.false_eq_true, ↓reduceIte]
    exact (Less.of rfl (by repeat (first | exact trivial | refine ⟨⟨_, rfl, Wk.refl _⟩, ?_⟩)) (by repeat (first | exact trivial | refine ⟨rfl, ?_⟩)) rfl)
   ·refine BR.mk (l' := #[true, false, true, true, false, false, false, false, false, false]) rfl rfl rfl ?_
    (first | (refine ST.sm (sm_makeMap2 true 6 810 811 rfl (by first | rfl | simp [S.clean, S.put, S.newObj, S.forget, V.has, V.hasL, junkIf, setL, V.cs, hasL_i, hasL_vd, hasL_vdt, hasL_d, hasL_b, hasL_s, hasL_n, hasL_rep, hasL_flat, hasL_append, -List.map_set]) rfl rfl rfl) ?_) | (refine ST.sm (sm_makeMap 810 rfl (by first | rfl | simp [S.clean, S.put, S.newObj, S.forget, V.has, V.hasL, junkIf, setL, V.cs, hasL_i, hasL_vd, hasL_vdt, hasL_d, hasL_b, hasL_s, hasL_n, hasL_rep, hasL_flat, hasL_append, -List.map_set]) rfl) ?_))
    try simp only [S.put, List.map_cons, List.map_nil, rowMap, to2_d, to2_ref, to2_own, to2_junk, to2_F, to2_T, List.getElem_toArray, List.getElem_cons_zero, List.getElem_cons_succ, List.set_cons_zero, List.set_cons_succ, Bool.not_true, Bool.not_false, if_true, if_false, Bool.false_eq_true, ↓reduceIte]
    (first | (refine AN.rp (i := 4) (l' := #[true, false, true, true, true, false, false, false, false, false]) rfl rfl rfl (fun _ _ h => h) (by kernel_rfl) rfl (rp_nilCheck rfl rfl) ?_) | (refine AN.rp (i := 4) (l' := #[true, false, true, true, true, false, false, false, false, false]) rfl rfl rfl (fun _ _ h => h) (by kernel_rfl) rfl (rp_nilCheck_ad rfl rfl) ?_))
    (first | (refine AN.rp (i := 5) (l' := #[true, false, true, true, true, true, false, false, false, false]) rfl rfl rfl (fun _ _ h => h) (by kernel_rfl) rfl (rp_field_ref Tryd.underlying128 rfl rfl rfl inf125 (by decide) rfl) ?_) | (refine AN.rp (i := 5) (l' := #[true, false, true, true, true, true, false, false, false, false]) rfl rfl rfl (fun _ _ h => h) (by kernel_rfl) rfl (rp_field_ad Tryd.underlying128 rfl rfl rfl inf125 (by decide) rfl) ?_))
    refine AN.br2 (i := 1) (j := 6) (by kernel_rfl) ?_ ?_
    ·refine BR.mk (l' := #[true, true, true, true, true, true, false, false, false, false]) rfl rfl rfl ?_
     (first | (refine ST.rd rfl (rd_load_ref Tryd.underlying112 rfl rfl rfl rfl rfl rfl) ?_) | (refine ST.rd rfl (rd_load_ad Tryd.underlying112 rfl rfl rfl rfl) ?_) | (refine ST.rd rfl (rd_load_map Tryd.underlying112 rfl rfl rfl rfl rfl rfl (by assumption)) ?_) | (refine ST.rd rfl (rd_load_flat Tryd.underlying112 rfl rfl rfl rfl rfl rfl (fun _ => rfl) (by assumption) rfl) ?_))
     refine AN.br1 (i := 6) (by kernel_rfl) ?_
     refine BR.mk (l' := #[true, true, true, true, true, true, true, false, false, false]) rfl rfl rfl ?_
     (first | (refine ST.st (st_store_map2 inf125 rfl rfl rfl rfl rfl rfl rfl rfl (by first | assumption | omega)) ?_) | (refine ST.st (st_store inf125 rfl rfl rfl rfl rfl rfl rfl (by first | decide | (simp; done)) rfl) ?_))
     (first | (refine AN.rp (i := 7) (l' := #[true, true, true, true, true, true, true, true, false, false]) rfl rfl rfl (fun _ _ h => h) (by kernel_rfl) rfl (rp_nilCheck rfl rfl) ?_) | (refine AN.rp (i := 7) (l' := #[true, true, true, true, true, true, true, true, false, false]) rfl rfl rfl (fun _ _ h => h) (by kernel_rfl) rfl (rp_nilCheck_ad rfl rfl) ?_))
     (first | (refine AN.rp (i := 8) (l' := #[true, true, true, true, true, true, true, true, true, false]) rfl rfl rfl (fun _ _ h => h) (by kernel_rfl) rfl (rp_field_ref Tryd.underlying128 rfl rfl rfl inf126 (by decide) rfl) ?_) | (refine AN.rp (i := 8) (l' := #[true, true, true, true, true, true, true, true, true, false]) rfl rfl rfl (fun _ _ h => h) (by kernel_rfl) rfl (rp_field_ad Tryd.underlying128 rfl rfl rfl inf126 (by decide) rfl) ?_))
     refine AN.br1 (i := 9) (by kernel_rfl) ?_
     refine BR.mk (l' := #[true, true, true, true, true, true, true, true, true, true]) rfl rfl rfl ?_
     (first | (refine ST.st (st_store_map2 inf126 rfl rfl rfl rfl rfl rfl rfl rfl (by first | assumption | omega)) ?_) | (refine ST.st (st_store inf126 rfl rfl rfl rfl rfl rfl rfl (by first | decide | (simp; done)) rfl) ?_))
     refine AN.nil (by kernel_rfl) ?_
     show Less _ _
     (try simp only [S.put, S.newObj, setL, V.cs, List.length_cons, List.length_nil, List.take_succ_cons, List.take_zero, List.drop_succ_cons, List.drop_zero, List.drop_nil, List.nil_append, List.cons_append, List.append_nil, Nat.zero_add, Nat.reduceAdd, List.map_cons, List.map_nil, List.set_cons_zero, List.set_cons_succ])
     try simp only [S.dd, ddL, List.contains_cons, List.contains_nil, Nat.reduceBEq, beq_self_eq_true, Bool.or_false, Bool.or_true, Bool.false_or, Bool.true_or, Bool.or_self, if_true, if_false, Bool.false_eq_true, ↓reduceIte]
     exact (Less.of rfl (by repeat (first | exact trivial | refine ⟨⟨_, rfl, Wk.refl _⟩, ?_⟩)) (by repeat (first | exact trivial | refine ⟨rfl, ?_⟩)) rfl)
    ·refine BR.mk (l' := #[true, false, true, true, true, true, true, false, false, false]) rfl rfl rfl ?_
     (first | (refine ST.st (st_store_map2 inf125 rfl rfl rfl rfl rfl rfl rfl rfl (by first | assumption | omega)) ?_) | (refine ST.st (st_store inf125 rfl rfl rfl rfl rfl rfl rfl (by first | decide | (simp; done)) rfl) ?_))
     refine AN.br1 (i := 1) (by kernel_rfl) ?_
     refine BR.mk (l' := #[true, true, true, true, true, true, true, false, false, false]) rfl rfl rfl ?_
     (first | (refine ST.rd rfl (rd_load_ref Tryd.underlying112 rfl rfl rfl rfl rfl rfl) ?_) | (refine ST.rd rfl (rd_load_ad Tryd.underlying112 rfl rfl rfl rfl) ?_) | (refine ST.rd rfl (rd_load_map Tryd.underlying112 rfl rfl rfl rfl rfl rfl (by assumption)) ?_) | (refine ST.rd rfl (rd_load_flat Tryd.underlying112 rfl rfl rfl rfl rfl rfl (fun _ => rfl) (by assumption) rfl) ?_))
     (first | (refine AN.rp (i := 7) (l' := #[true, true, true, true, true, true, true, true, false, false]) rfl rfl rfl (fun _ _ h => h) (by kernel_rfl) rfl (rp_nilCheck rfl rfl) ?_) | (refine AN.rp (i := 7) (l' := #[true, true, true, true, true, true, true, true, false, false]) rfl rfl rfl (fun _ _ h => h) (by kernel_rfl) rfl (rp_nilCheck_ad rfl rfl) ?_))
     (first | (refine AN.rp (i := 8) (l' := #[true, true, true, true, true, true, true, true, true, false]) rfl rfl rfl (fun _ _ h => h) (by kernel_rfl) rfl (rp_field_ref Tryd.underlying128 rfl rfl rfl inf126 (by decide) rfl) ?_) | (refine AN.rp (i := 8) (l' := #[true, true, true, true, true, true, true, true, true, false]) rfl rfl rfl (fun _ _ h => h) (by kernel_rfl) rfl (rp_field_ad Tryd.underlying128 rfl rfl rfl inf126 (by decide) rfl) ?_))
     refine AN.br1 (i := 9) (by kernel_rfl) ?_
     refine BR.mk (l' := #[true, true, true, true, true, true, true, true, true, true]) rfl rfl rfl ?_
     (first | (refine ST.st (st_store_map2 inf126 rfl rfl rfl rfl rfl rfl rfl rfl (by first | assumption | omega)) ?_) | (refine ST.st (st_store inf126 rfl rfl rfl rfl rfl rfl rfl (by first | decide | (simp; done)) rfl) ?_))
     refine AN.nil (by kernel_rfl) ?_
     show Less _ _
     (try simp only [S.put, S.newObj, setL, V.cs, List.length_cons, List.length_nil, List.take_succ_cons, List.take_zero, List.drop_succ_cons, List.drop_zero, List.drop_nil, List.nil_append, List.cons_append, List.append_nil, Nat.zero_add, Nat.reduceAdd, List.map_cons, List.map_nil, List.set_cons_zero, List.set_cons_succ])
     try simp only [S.dd, ddL, List.contains_cons, List.contains_nil, Nat.reduceBEq, beq_self_eq_true, Bool.or_false, Bool.or_true, Bool.false_or, Bool.true_or, Bool.or_self, if_true, if_false, Bool.false_eq_true, ↓reduceIte]
     exact (Less.of rfl (by repeat (first | exact trivial | refine ⟨⟨_, rfl, Wk.refl _⟩, ?_⟩)) (by repeat (first | exact trivial | refine ⟨rfl, ?_⟩)) rfl)
 ·refine BR.mk (l' := #[false, true, false, false, false, false, false, false, false, false]) rfl rfl rfl ?_
  (first | (refine ST.rd rfl (rd_load_ref Tryd.underlying112 rfl rfl rfl rfl rfl rfl) ?_) | (refine ST.rd rfl (rd_load_ad Tryd.underlying112 rfl rfl rfl rfl) ?_) | (refine ST.rd rfl (rd_load_map Tryd.underlying112 rfl rfl rfl rfl rfl rfl (by assumption)) ?_) | (refine ST.rd rfl (rd_load_flat Tryd.underlying112 rfl rfl rfl rfl rfl rfl (fun _ => rfl) (by assumption) rfl) ?_))
  refine AN.br3 (i := 0) (j := 2) (k := 3) (by kernel_rfl) ?_ ?_ ?_
  ·refine BR.mk (l' := #[true, true, false, false, false, false, false, false, false, false]) rfl rfl rfl ?_
   (first | (refine ST.rd rfl (rd_load_ref Tryd.underlying112 rfl rfl rfl rfl rfl rfl) ?_) | (refine ST.rd rfl (rd_load_ad Tryd.underlying112 rfl rfl rfl rfl) ?_) | (refine ST.rd rfl (rd_load_map Tryd.underlying112 rfl rfl rfl rfl rfl rfl (by assumption)) ?_) | (refine ST.rd rfl (rd_load_flat Tryd.underlying112 rfl rfl rfl rfl rfl rfl (fun _ => rfl) (by assumption) rfl) ?_))
   refine AN.br2 (i := 2) (j := 3) (by kernel_rfl) ?_ ?_
   ·refine BR.mk (l' := #[true, true, true, false, false, false, false, false, false, false]) rfl rfl rfl ?_
    (first | (refine ST.sm (sm_makeMap2 true 6 810 811 rfl (by first | rfl | simp [S.clean, S.put, S.newObj, S.forget, V.has, V.hasL, junkIf, setL, V.cs, hasL_i, hasL_vd, hasL_vdt, hasL_d, hasL_b, hasL_s, hasL_n, hasL_rep, hasL_flat, hasL_append, -List.map_set]) rfl rfl rfl) ?_) | (refine ST.sm (sm_makeMap 810 rfl (by first | rfl | simp [S.clean, S.put, S.newObj, S.forget, V.has, V.hasL, junkIf, setL, V.cs, hasL_i, hasL_vd, hasL_vdt, hasL_d, hasL_b, hasL_s, hasL_n, hasL_rep, hasL_flat, hasL_append, -List.map_set]) rfl) ?_))
    try simp only [S.put, List.map_cons, List.map_nil, rowMap, to2_d, to2_ref, to2_own, to2_junk, to2_F, to2_T, List.getElem_toArray, List.getElem_cons_zero, List.getElem_cons_succ, List.set_cons_zero, List.set_cons_succ, Bool.not_true, Bool.not_false, if_true, if_false, Bool.false_eq_true, ↓reduceIte]
    (first | (refine AN.rp (i := 4) (l' := #[true, true, true, false, true, false, false, false, false, false]) rfl rfl rfl (fun _ _ h => h) (by kernel_rfl) rfl (rp_nilCheck rfl rfl) ?_) | (refine AN.rp (i := 4) (l' := #[true, true, true, false, true, false, false, false, false, false]) rfl rfl rfl (fun _ _ h => h) (by kernel_rfl) rfl (rp_nilCheck_ad rfl rfl) ?_))
    (first | (refine AN.rp (i := 5) (l' := #[true, true, true, false, true, true, false, false, false, false]) rfl rfl rfl (fun _ _ h => h) (by kernel_rfl) rfl (rp_field_ref Tryd.underlying128 rfl rfl rfl inf125 (by decide) rfl) ?_) | (refine AN.rp (i := 5) (l' := #[true, true, true, false, true, true, false, false, false, false]) rfl rfl rfl (fun _ _ h => h) (by kernel_rfl) rfl (rp_field_ad Tryd.underlying128 rfl rfl rfl inf125 (by decide) rfl) ?_))
    refine AN.br2 (i := 3) (j := 6) (by kernel_rfl) ?_ ?_
    ·refine BR.mk (l' := #[true, true, true, true, true, true, false, false, false, false]) rfl rfl rfl ?_
     (first | (refine ST.sm (sm_makeMap2 false 5 810 811 rfl (by first | rfl | simp [S.clean, S.put, S.newObj, S.forget, V.has, V.hasL, junkIf, setL, V.cs, hasL_i, hasL_vd, hasL_vdt, hasL_d, hasL_b, hasL_s, hasL_n, hasL_rep, hasL_flat, hasL_append, -List.map_set]) rfl rfl rfl) ?_) | (refine ST.sm (sm_makeMap 811 rfl (by first | rfl | simp [S.clean, S.put, S.newObj, S.forget, V.has, V.hasL, junkIf, setL, V.cs, hasL_i, hasL_vd, hasL_vdt, hasL_d, hasL_b, hasL_s, hasL_n, hasL_rep, hasL_flat, hasL_append, -List.map_set]) rfl) ?_))
     try simp only [S.put, List.map_cons, List.map_nil, rowMap, to2_d, to2_ref, to2_own, to2_junk, to2_F, to2_T, List.getElem_toArray, List.getElem_cons_zero, List.getElem_cons_succ, List.set_cons_zero, List.set_cons_succ, Bool.not_true, Bool.not_false, if_true, if_false, Bool.false_eq_true, ↓reduceIte]
     refine AN.br1 (i := 6) (by kernel_rfl) ?_
     refine BR.mk (l' := #[true, true, true, true, true, true, true, false, false, false]) rfl rfl rfl ?_
     (first | (refine ST.st (st_store_map2 inf125 rfl rfl rfl rfl rfl rfl rfl rfl (by first | assumption | omega)) ?_) | (refine ST.st (st_store inf125 rfl rfl rfl rfl rfl rfl rfl (by first | decide | (simp; done)) rfl) ?_))
     (first | (refine AN.rp (i := 7) (l' := #[true, true, true, true, true, true, true, true, false, false]) rfl rfl rfl (fun _ _ h => h) (by kernel_rfl) rfl (rp_nilCheck rfl rfl) ?_) | (refine AN.rp (i := 7) (l' := #[true, true, true, true, true, true, true, true, false, false]) rfl rfl rfl (fun _ _ h => h) (by kernel_rfl) rfl (rp_nilCheck_ad rfl rfl) ?_))
     (first | (refine AN.rp (i := 8) (l' := #[true, true, true, true, true, true, true, true, true, false]) rfl rfl rfl (fun _ _ h => h) (by kernel_rfl) rfl (rp_field_ref Tryd.underlying128 rfl rfl rfl inf126 (by decide) rfl) ?_) | (refine AN.rp (i := 8) (l' := #[true, true, true, true, true, true, true, true, true, false]) rfl rfl rfl (fun _ _ h => h) (by kernel_rfl) rfl (rp_field_ad Tryd.underlying128 rfl rfl rfl inf126 (by decide) rfl) ?_))
     refine AN.br1 (i := 9) (by kernel_rfl) ?_
     refine BR.mk (l' := #[true, true, true, true, true, true, true, true, true, true]) rfl rfl rfl ?_
     (first | (refine ST.st (st_store_map2 inf126 rfl rfl rfl rfl rfl rfl rfl rfl (by first | assumption | omega)) ?_) | (refine ST.st (st_store inf126 rfl rfl rfl rfl rfl rfl rfl (by first | decide | (simp; done)) rfl) ?_))
     refine AN.nil (by kernel_rfl) ?_
     show Less _ _
     (try simp only [S.put, S.newObj, setL, V.cs, List.length_cons, List.length_nil, List.take_succ_cons, List.take_zero, List.drop_succ_cons, List.drop_zero, List.drop_nil, List.nil_append, List.cons_append, List.append_nil, Nat.zero_add, Nat.reduceAdd, List.map_cons, List.map_nil, List.set_cons_zero, List.set_cons_succ])
     try simp only [S.dd, ddL, List.contains_cons, List.contains_nil, Nat.reduceBEq, beq_self_eq_true, Bool.or_false, Bool.or_true, Bool.false_or, Bool.true_or, Bool.or_self, if_true, if_false, Bool.false_eq_true, ↓reduceIte]
     exact (Less.of rfl (by repeat (first | exact trivial | refine ⟨⟨_, rfl, Wk.refl _⟩, ?_⟩)) (by repeat (first | exact trivial | refine ⟨rfl, ?_⟩)) rfl)
    ·refine BR.mk (l' := #[true, true, true, false, true, true, true, false, false, false]) rfl rfl rfl ?_
     (first | (refine ST.st (st_store_map2 inf125 rfl rfl rfl rfl rfl rfl rfl rfl (by first | assumption | omega)) ?_) | (refine ST.st (st_store inf125 rfl rfl rfl rfl rfl rfl rfl (by first | decide | (simp; done)) rfl) ?_))
     refine AN.br1 (i := 3) (by kernel_rfl) ?_
     refine BR.mk (l' := #[true, true, true, true, true, true, true, false, false, false]) rfl rfl rfl ?_
     (first | (refine ST.sm (sm_makeMap2 false 5 810 811 rfl (by first | rfl | simp [S.clean, S.put, S.newObj, S.forget, V.has, V.hasL, junkIf, setL, V.cs, hasL_i, hasL_vd, hasL_vdt, hasL_d, hasL_b, hasL_s, hasL_n, hasL_rep, hasL_flat, hasL_append, -List.map_set]) rfl rfl rfl) ?_) | (refine ST.sm (sm_makeMap 811 rfl (by first | rfl | simp [S.clean, S.put, S.newObj, S.forget, V.has, V.hasL, junkIf, setL, V.cs, hasL_i, hasL_vd, hasL_vdt, hasL_d, hasL_b, hasL_s, hasL_n, hasL_rep, hasL_flat, hasL_append, -List.map_set]) rfl) ?_))
     try simp only [S.put, List.map_cons, List.map_nil, rowMap, to2_d, to2_ref, to2_own, to2_junk, to2_F, to2_T, List.getElem_toArray, List.getElem_cons_zero, List.getElem_cons_succ, List.set_cons_zero, List.set_cons_succ, Bool.not_true, Bool.not_false, if_true, if_false, Bool.false_eq_true, ↓reduceIte]
     (first | (refine AN.rp (i := 7) (l' := #[true, true, true, true, true, true, true, true, false, false]) rfl rfl rfl (fun _ _ h => h) (by kernel_rfl) rfl (rp_nilCheck rfl rfl) ?_) | (refine AN.rp (i := 7) (l' := #[true, true, true, true, true, true, true, true, false, false]) rfl rfl rfl (fun _ _ h => h) (by kernel_rfl) rfl (rp_nilCheck_ad rfl rfl) ?_))
     (first | (refine AN.rp (i := 8) (l' := #[true, true, true, true, true, true, true, true, true, false]) rfl rfl rfl (fun _ _ h => h) (by kernel_rfl) rfl (rp_field_ref Tryd.underlying128 rfl rfl rfl inf126 (by decide) rfl) ?_) | (refine AN.rp (i := 8) (l' := #[true, true, true, true, true, true, true, true, true, false]) rfl rfl rfl (fun _ _ h => h) (by kernel_rfl) rfl (rp_field_ad Tryd.underlying128 rfl rfl rfl inf126 (by decide) rfl) ?_))
     refine AN.br1 (i := 9) (by kernel_rfl) ?_
     refine BR.mk (l' := #[true, true, true, true, true, true, true, true, true, true]) rfl rfl rfl ?_
     (first | (refine ST.st (st_store_map2 inf126 rfl rfl rfl rfl rfl rfl rfl rfl (by first | assumption | omega)) ?_) | (refine ST.st (st_store inf126 rfl rfl rfl rfl rfl rfl rfl (by first | decide | (simp; done)) rfl) ?_))
     refine AN.nil (by kernel_rfl) ?_
     show Less _ _
     (try simp only [S.put, S.newObj, setL, V.cs, List.length_cons, List.length_nil, List.take_succ_cons, List.take_zero, List.drop_succ_cons, List.drop_zero, List.drop_nil, List.nil_append, List.cons_append, List.append_nil, Nat.zero_add, Nat.reduceAdd, List.map_cons, List.map_nil, List.set_cons_zero, List.set_cons_succ])
     try simp only [S.dd, ddL, List.contains_cons, List.contains_nil, Nat.reduceBEq, beq_self_eq_true, Bool.or_false, Bool.or_true, Bool.false_or, Bool.true_or, Bool.or_self, if_true, if_false, Bool.false_eq_true, ↓reduceIte]
     exact (Less.of rfl (by repeat (first | exact trivial | refine ⟨⟨_, rfl, Wk.refl _⟩, ?_⟩)) (by repeat (first | exact trivial | refine ⟨rfl, ?_⟩)) rfl)
   ·refine BR.mk (l' := #[true, true, false, true, false, false, false, false, false, false]) rfl rfl rfl ?_
    (first | (refine ST.sm (sm_makeMap2 false 5 810 811 rfl (by first | rfl | simp [S.clean, S.put, S.newObj, S.forget, V.has, V.hasL, junkIf, setL, V.cs, hasL_i, hasL_vd, hasL_vdt, hasL_d, hasL_b, hasL_s, hasL_n, hasL_rep, hasL_flat, hasL_append, -List.map_set]) rfl rfl rfl) ?_) | (refine ST.sm (sm_makeMap 811 rfl (by first | rfl | simp [S.clean, S.put, S.newObj, S.forget, V.has, V.hasL, junkIf, setL, V.cs, hasL_i, hasL_vd, hasL_vdt, hasL_d, hasL_b, hasL_s, hasL_n, hasL_rep, hasL_flat, hasL_append, -List.map_set]) rfl) ?_))
    try simp only [S.put, List.map_cons, List.map_nil, rowMap, to2_d, to2_ref, to2_own, to2_junk, to2_F, to2_T, List.getElem_toArray, List.getElem_cons_zero, List.getElem_cons_succ, List.set_cons_zero, List.set_cons_succ, Bool.not_true, Bool.not_false, if_true, if_false, Bool.false_eq_true, ↓reduceIte]
    refine AN.br1 (i := 2) (by kernel_rfl) ?_
    refine BR.mk (l' := #[true, true, true, true, false, false, false, false, false, false]) rfl rfl rfl ?_
    (first | (refine ST.sm (sm_makeMap2 true 6 810 811 rfl (by first | rfl | simp [S.clean, S.put, S.newObj, S.forget, V.has, V.hasL, junkIf, setL, V.cs, hasL_i, hasL_vd, hasL_vdt, hasL_d, hasL_b, hasL_s, hasL_n, hasL_rep, hasL_flat, hasL_append, -List.map_set]) rfl rfl rfl) ?_) | (refine ST.sm (sm_makeMap 810 rfl (by first | rfl | simp [S.clean, S.put, S.newObj, S.forget, V.has, V.hasL, junkIf, setL, V.cs, hasL_i, hasL_vd, hasL_vdt, hasL_d, hasL_b, hasL_s, hasL_n, hasL_rep, hasL_flat, hasL_append, -List.map_set]) rfl) ?_))
    try simp only [S.put, List.map_cons, List.map_nil, rowMap, to2_d, to2_ref, to2_own, to2_junk, to2_F, to2_T, List.getElem_toArray, List.getElem_cons_zero, List.getElem_cons_succ, List.set_cons_zero, List.set_cons_succ, Bool.not_true, Bool.not_false, if_true, if_false, Bool.false_eq_true, ↓reduceIte]
    (first | (refine AN.rp (i := 4) (l' := #[true, true, true, true, true, false, false, false, false, false]) rfl rfl rfl (fun _ _ h => h) (by kernel_rfl) rfl (rp_nilCheck rfl rfl) ?_) | (refine AN.rp (i := 4) (l' := #[true, true, true, true, true, false, false, false, false, false]) rfl rfl rfl (fun _ _ h => h) (by kernel_rfl) rfl (rp_nilCheck_ad rfl rfl) ?_))
    (first | (refine AN.rp (i := 5) (l' := #[true, true, true, true, true, true, false, false, false, false]) rfl rfl rfl (fun _ _ h => h) (by kernel_rfl) rfl (rp_field_ref Tryd.underlying128 rfl rfl rfl inf125 (by decide) rfl) ?_) | (refine AN.rp (i := 5) (l' := #[true, true, true, true, true, true, false, false, false, false]) rfl rfl rfl (fun _ _ h => h) (by kernel_rfl) rfl (rp_field_ad Tryd.underlying128 rfl rfl rfl inf125 (by decide) rfl) ?_))
    refine AN.br1 (i := 6) (by kernel_rfl) ?_
    refine BR.mk (l' := #[true, true, true, true, true, true, true, false, false, false]) rfl rfl rfl ?_
    (first | (refine ST.st (st_store_map2 inf125 rfl rfl rfl rfl rfl rfl rfl rfl (by first | assumption | omega)) ?_) | (refine ST.st (st_store inf125 rfl rfl rfl rfl rfl rfl rfl (by first | decide | (simp; done)) rfl) ?_))
    (first | (refine AN.rp (i := 7) (l' := #[true, true, true, true, true, true, true, true, false, false]) rfl rfl rfl (fun _ _ h => h) (by kernel_rfl) rfl (rp_nilCheck rfl rfl) ?_) | (refine AN.rp (i := 7) (l' := #[true, true, true, true, true, true, true, true, false, false]) rfl rfl rfl (fun _ _ h => h) (by kernel_rfl) rfl (rp_nilCheck_ad rfl rfl) ?_))
    (first | (refine AN.rp (i := 8) (l' := #[true, true, true, true, true, true, true, true, true, false]) rfl rfl rfl (fun _ _ h => h) (by kernel_rfl) rfl (rp_field_ref Tryd.underlying128 rfl rfl rfl inf126 (by decide) rfl) ?_) | (refine AN.rp (i := 8) (l' := #[true, true, true, true, true, true, true, true, true, false]) rfl rfl rfl (fun _ _ h => h) (by kernel_rfl) rfl (rp_field_ad Tryd.underlying128 rfl rfl rfl inf126 (by decide) rfl) ?_))
    refine AN.br1 (i := 9) (by kernel_rfl) ?_
    refine BR.mk (l' := #[true, true, true, true, true, true, true, true, true, true]) rfl rfl rfl ?_
    (first | (refine ST.st (st_store_map2 inf126 rfl rfl rfl rfl rfl rfl rfl rfl (by first | assumption | omega)) ?_) | (refine ST.st (st_store inf126 rfl rfl rfl rfl rfl rfl rfl (by first | decide | (simp; done)) rfl) ?_))
    refine AN.nil (by kernel_rfl) ?_
    show Less _ _
    (try simp only [S.put, S.newObj, setL, V.cs, List.length_cons, List.length_nil, List.take_succ_cons, List.take_zero, List.drop_succ_cons, List.drop_zero, List.drop_nil, List.nil_append, List.cons_append, List.append_nil, Nat.zero_add, Nat.reduceAdd, List.map_cons, List.map_nil, List.set_cons_zero, List.set_cons_succ])
    try simp only [S.dd, ddL, List.contains_cons, List.contains_nil, Nat.reduceBEq, beq_self_eq_true, Bool.or_false, Bool.or_true, Bool.false_or, Bool.true_or, Bool.or_self, if_true, if_false, Bool.false_eq_true, ↓reduceIte]
    exact (Less.of rfl (by repeat (first | exact trivial | refine ⟨⟨_, rfl, Wk.refl _⟩, ?_⟩)) (by repeat (first | exact trivial | refine ⟨rfl, ?_⟩)) rfl)
  ·refine BR.mk (l' := #[false, true, true, false, false, false, false, false, false, false]) rfl rfl rfl ?_
   (first | (refine ST.sm (sm_makeMap2 true 6 810 811 rfl (by first | rfl | simp [S.clean, S.put, S.newObj, S.forget, V.has, V.hasL, junkIf, setL, V.cs, hasL_i, hasL_vd, hasL_vdt, hasL_d, hasL_b, hasL_s, hasL_n, hasL_rep, hasL_flat, hasL_append, -List.map_set]) rfl rfl rfl) ?_) | (refine ST.sm (sm_makeMap 810 rfl (by first | rfl | simp [S.clean, S.put, S.newObj, S.forget, V.has, V.hasL, junkIf, setL, V.cs, hasL_i, hasL_vd, hasL_vdt, hasL_d, hasL_b, hasL_s, hasL_n, hasL_rep, hasL_flat, hasL_append, -List.map_set]) rfl) ?_))
   try simp only [S.put, List.map_cons, List.map_nil, rowMap, to2_d, to2_ref, to2_own, to2_junk, to2_F, to2_T, List.getElem_toArray, List.getElem_cons_zero, List.getElem_cons_succ, List.set_cons_zero, List.set_cons_succ, Bool.not_true, Bool.not_false, if_true, if_false, Bool.false_eq_true, ↓reduceIte]
   refine AN.br2 (i := 0) (j := 3) (by kernel_rfl) ?_ ?_
   ·refine BR.mk (l' := #[true, true, true, false, false, false, false, false, false, false]) rfl rfl rfl ?_
    (first | (refine ST.rd rfl (rd_load_ref Tryd.underlying112 rfl rfl rfl rfl rfl rfl) ?_) | (refine ST.rd rfl (rd_load_ad Tryd.underlying112 rfl rfl rfl rfl) ?_) | (refine ST.rd rfl (rd_load_map Tryd.underlying112 rfl rfl rfl rfl rfl rfl (by assumption)) ?_) | (refine ST.rd rfl (rd_load_flat Tryd.underlying112 rfl rfl rfl rfl rfl rfl (fun _ => rfl) (by assumption) rfl) ?_))
    (first | (refine AN.rp (i := 4) (l' := #[true, true, true, false, true, false, false, false, false, false]) rfl rfl rfl (fun _ _ h => h) (by kernel_rfl) rfl (rp_nilCheck rfl rfl) ?_) | (refine AN.rp (i := 4) (l' := #[true, true, true, false, true, false, false, false, false, false]) rfl rfl rfl (fun _ _ h => h) (by kernel_rfl) rfl (rp_nilCheck_ad rfl rfl) ?_))
    (first | (refine AN.rp (i := 5) (l' := #[true, true, true, false, true, true, false, false, false, false]) rfl rfl rfl (fun _ _ h => h) (by kernel_rfl) rfl (rp_field_ref Tryd.underlying128 rfl rfl rfl inf125 (by decide) rfl) ?_) | (refine AN.rp (i := 5) (l' := #[true, true, true, false, true, true, false, false, false, false]) rfl rfl rfl (fun _ _ h => h) (by kernel_rfl) rfl (rp_field_ad Tryd.underlying128 rfl rfl rfl inf125 (by decide) rfl) ?_))
    refine AN.br2 (i := 3) (j := 6) (by kernel_rfl) ?_ ?_
    ·refine BR.mk (l' := #[true, true, true, true, true, true, false, false, false, false]) rfl rfl rfl ?_
     (first | (refine ST.sm (sm_makeMap2 false 5 810 811 rfl (by first | rfl | simp [S.clean, S.put, S.newObj, S.forget, V.has, V.hasL, junkIf, setL, V.cs, hasL_i, hasL_vd, hasL_vdt, hasL_d, hasL_b, hasL_s, hasL_n, hasL_rep, hasL_flat, hasL_append, -List.map_set]) rfl rfl rfl) ?_) | (refine ST.sm (sm_makeMap 811 rfl (by first | rfl | simp [S.clean, S.put, S.newObj, S.forget, V.has, V.hasL, junkIf, setL, V.cs, hasL_i, hasL_vd, hasL_vdt, hasL_d, hasL_b, hasL_s, hasL_n, hasL_rep, hasL_flat, hasL_append, -List.map_set]) rfl) ?_))
     try simp only [S.put, List.map_cons, List.map_nil, rowMap, to2_d, to2_ref, to2_own, to2_junk, to2_F, to2_T, List.getElem_toArray, List.getElem_cons_zero, List.getElem_cons_succ, List.set_cons_zero, List.set_cons_succ, Bool.not_true, Bool.not_false, if_true, if_false, Bool.false_eq_true, ↓reduceIte]
     refine AN.br1 (i := 6) (by kernel_rfl) ?_
     refine BR.mk (l' := #[true, true, true, true, true, true, true, false, false, false]) rfl rfl rfl ?_
     (first | (refine ST.st (st_store_map2 inf125 rfl rfl rfl rfl rfl rfl rfl rfl (by first | assumption | omega)) ?_) | (refine ST.st (st_store inf125 rfl rfl rfl rfl rfl rfl rfl (by first | decide | (simp; done)) rfl) ?_))
     (first | (refine AN.rp (i := 7) (l' := #[true, true, true, true, true, true, true, true, false, false]) rfl rfl rfl (fun _ _ h => h) (by kernel_rfl) rfl (rp_nilCheck rfl rfl) ?_) | (refine AN.rp (i := 7) (l' := #[true, true, true, true, true, true, true, true, false, false]) rfl rfl rfl (fun _ _ h => h) (by kernel_rfl) rfl (rp_nilCheck_ad rfl rfl) ?_))
     (first | (refine AN.rp (i := 8) (l' := #[true, true, true, true, true, true, true, true, true, false]) rfl rfl rfl (fun _ _ h => h) (by kernel_rfl) rfl (rp_field_ref Tryd.underlying128 rfl rfl rfl inf126 (by decide) rfl) ?_) | (refine AN.rp (i := 8) (l' := #[true, true, true, true, true, true, true, true, true, false]) rfl rfl rfl (fun _ _ h => h) (by kernel_rfl) rfl (rp_field_ad Tryd.underlying128 rfl rfl rfl inf126 (by decide) rfl) ?_))
     refine AN.br1 (i := 9) (by kernel_rfl) ?_
     refine BR.mk (l' := #[true, true, true, true, true, true, true, true, true, true]) rfl rfl rfl ?_
     (first | (refine ST.st (st_store_map2 inf126 rfl rfl rfl rfl rfl rfl rfl rfl (by first | assumption | omega)) ?_) | (refine ST.st (st_store inf126 rfl rfl rfl rfl rfl rfl rfl (by first | decide | (simp; done)) rfl) ?_))
     refine AN.nil (by kernel_rfl) ?_
     show Less _ _
     (try simp only [S.put, S.newObj, setL, V.cs, List.length_cons, List.length_nil, List.take_succ_cons, List.take_zero, List.drop_succ_cons, List.drop_zero, List.drop_nil, List.nil_append, List.cons_append, List.append_nil, Nat.zero_add, Nat.reduceAdd, List.map_cons, List.map_nil, List.set_cons_zero, List.set_cons_succ])
     try simp only [S.dd, ddL, List.contains_cons, List.contains_nil, Nat.reduceBEq, beq_self_eq_true, Bool.or_false, Bool.or_true, Bool.false_or, Bool.true_or, Bool.or_self, if_true, if_false, Bool.false_eq_true, ↓reduceIte]
     exact (Less.of rfl (by repeat (first | exact trivial | refine ⟨⟨_, rfl, Wk.refl _⟩, ?_⟩)) (by repeat (first | exact trivial | refine ⟨rfl, ?_⟩)) rfl)
    ·refine BR.mk (l' := #[true, true, true, false, true, true, true, false, false, false]) rfl rfl rfl ?_
     (first | (refine ST.st (st_store_map2 inf125 rfl rfl rfl rfl rfl rfl rfl rfl (by first | assumption | omega)) ?_) | (refine ST.st (st_store inf125 rfl rfl rfl rfl rfl rfl rfl (by first | decide | (simp; done)) rfl) ?_))
     refine AN.br1 (i := 3) (by kernel_rfl) ?_
     refine BR.mk (l' := #[true, true, true, true, true, true, true, false, false, false]) rfl rfl rfl ?_
     (first | (refine ST.sm (sm_makeMap2 false 5 810 811 rfl (by first | rfl | simp [S.clean, S.put, S.newObj, S.forget, V.has, V.hasL, junkIf, setL, V.cs, hasL_i, hasL_vd, hasL_vdt, hasL_d, hasL_b, hasL_s, hasL_n, hasL_rep, hasL_flat, hasL_append, -List.map_set]) rfl rfl rfl) ?_) | (refine ST.sm (sm_makeMap 811 rfl (by first | rfl | simp [S.clean, S.put, S.newObj, S.forget, V.has, V.hasL, junkIf, setL, V.cs, hasL_i, hasL_vd, hasL_vdt, hasL_d, hasL_b, hasL_s, hasL_n, hasL_rep, hasL_flat, hasL_append, -List.map_set]) rfl) ?_))
     try simp only [S.put, List.map_cons, List.map_nil, rowMap, to2_d, to2_ref, to2_own, to2_junk, to2_F, to2_T, List.getElem_toArray, List.getElem_cons_zero, List.getElem_cons_succ, List.set_cons_zero, List.set_cons_succ, Bool.not_true, Bool.not_false, if_true, if_false, Bool.false_eq_true, ↓reduceIte]
     (first | (refine AN.rp (i := 7) (l' := #[true, true, true, true, true, true, true, true, false, false]) rfl rfl rfl (fun _ _ h => h) (by kernel_rfl) rfl (rp_nilCheck rfl rfl) ?_) | (refine AN.rp (i := 7) (l' := #[true, true, true, true, true, true, true, true, false, false]) rfl rfl rfl (fun _ _ h => h) (by kernel_rfl) rfl (rp_nilCheck_ad rfl rfl) ?_))
     (first | (refine AN.rp (i := 8) (l' := #[true, true, true, true, true, true, true, true, true, false]) rfl rfl rfl (fun _ _ h => h) (by kernel_rfl) rfl (rp_field_ref Tryd.underlying128 rfl rfl rfl inf126 (by decide) rfl) ?_) | (refine AN.rp (i := 8) (l' := #[true, true, true, true, true, true, true, true, true, false]) rfl rfl rfl (fun _ _ h => h) (by kernel_rfl) rfl (rp_field_ad Tryd.underlying128 rfl rfl rfl inf126 (by decide) rfl) ?_))
     refine AN.br1 (i := 9) (by kernel_rfl) ?_
     refine BR.mk (l' := #[true, true, true, true, true, true, true, true, true, true]) rfl rfl rfl ?_
     (first | (refine ST.st (st_store_map2 inf126 rfl rfl rfl rfl rfl rfl rfl rfl (by first | assumption | omega)) ?_) | (refine ST.st (st_store inf126 rfl rfl rfl rfl rfl rfl rfl (by first | decide | (simp; done)) rfl) ?_))
     refine AN.nil (by kernel_rfl) ?_
     show Less _ _
     (try simp only [S.put, S.newObj, setL, V.cs, List.length_cons, List.length_nil, List.take_succ_cons, List.take_zero, List.drop_succ_cons, List.drop_zero, List.drop_nil, List.nil_append, List.cons_append, List.append_nil, Nat.zero_add, Nat.reduceAdd, List.map_cons, List.map_nil, List.set_cons_zero, List.set_cons_succ])
     try simp only [S.dd, ddL, List.contains_cons, List.contains_nil, Nat.reduceBEq, beq_self_eq_true, Bool.or_false, Bool.or_true, Bool.false_or, Bool.true_or, Bool.or_self, if_true, if_false, Bool.false_eq_true, ↓reduceIte]
     exact (Less.of rfl (by repeat (first | exact trivial | refine ⟨⟨_, rfl, Wk.refl _⟩, ?_⟩)) (by repeat (first | exact trivial | refine ⟨rfl, ?_⟩)) rfl)
   ·refine BR.mk (l' := #[false, true, true, true, false, false, false, false, false, false]) rfl rfl rfl ?_
    (first | (refine ST.sm (sm_makeMap2 false 5 810 811 rfl (by first | rfl | simp [S.clean, S.put, S.newObj, S.forget, V.has, V.hasL, junkIf, setL, V.cs, hasL_i, hasL_vd, hasL_vdt, hasL_d, hasL_b, hasL_s, hasL_n, hasL_rep, hasL_flat, hasL_append, -List.map_set]) rfl rfl rfl) ?_) | (refine ST.sm (sm_makeMap 811 rfl (by first | rfl | simp [S.clean, S.put, S.newObj, S.forget, V.has, V.hasL, junkIf, setL, V.cs, hasL_i, hasL_vd, hasL_vdt, hasL_d, hasL_b, hasL_s, hasL_n, hasL_rep, hasL_flat, hasL_append, -List.map_set]) rfl) ?_))
    try simp only [S.put, List.map_cons, List.map_nil, rowMap, to2_d, to2_ref, to2_own, to2_junk, to2_F, to2_T, List.getElem_toArray, List.getElem_cons_zero, List.getElem_cons_succ, List.set_cons_zero, List.set_cons_succ, Bool.not_true, Bool.not_false, if_true, if_false, Bool.false_eq_true, ↓reduceIte]
    refine AN.br1 (i := 0) (by kernel_rfl) ?_
    refine BR.mk (l' := #[true, true, true, true, false, false, false, false, false, false]) rfl rfl rfl ?_
    (first | (refine ST.rd rfl (rd_load_ref Tryd.underlying112 rfl rfl rfl rfl rfl rfl) ?_) | (refine ST.rd rfl (rd_load_ad Tryd.underlying112 rfl rfl rfl rfl) ?_) | (refine ST.rd rfl (rd_load_map Tryd.underlying112 rfl rfl rfl rfl rfl rfl (by assumption)) ?_) | (refine ST.rd rfl (rd_load_flat Tryd.underlying112 rfl rfl rfl rfl rfl rfl (fun _ => rfl) (by assumption) rfl) ?_))
    (first | (refine AN.rp (i := 4) (l' := #[true, true, true, true, true, false, false, false, false, false]) rfl rfl rfl (fun _ _ h => h) (by kernel_rfl) rfl (rp_nilCheck rfl rfl) ?_) | (refine AN.rp (i := 4) (l' := #[true, true, true, true, true, false, false, false, false, false]) rfl rfl rfl (fun _ _ h => h) (by kernel_rfl) rfl (rp_nilCheck_ad rfl rfl) ?_))
    (first | (refine AN.rp (i := 5) (l' := #[true, true, true, true, true, true, false, false, false, false]) rfl rfl rfl (fun _ _ h => h) (by kernel_rfl) rfl (rp_field_ref Tryd.underlying128 rfl rfl rfl inf125 (by decide) rfl) ?_) | (refine AN.rp (i := 5) (l' := #[true, true, true, true, true, true, false, false, false, false]) rfl rfl rfl (fun _ _ h => h) (by kernel_rfl) rfl (rp_field_ad Tryd.underlying128 rfl rfl rfl inf125 (by decide) rfl) ?_))
    refine AN.br1 (i := 6) (by kernel_rfl) ?_
    refine BR.mk (l' := #[true, true, true, true, true, true, true, false, false, false]) rfl rfl rfl ?_
    (first | (refine ST.st (st_store_map2 inf125 rfl rfl rfl rfl rfl rfl rfl rfl (by first | assumption | omega)) ?_) | (refine ST.st (st_store inf125 rfl rfl rfl rfl rfl rfl rfl (by first | decide | (simp; done)) rfl) ?_))
    (first | (refine AN.rp (i := 7) (l' := #[true, true, true, true, true, true, true, true, false, false]) rfl rfl rfl (fun _ _ h => h) (by kernel_rfl) rfl (rp_nilCheck rfl rfl) ?_) | (refine AN.rp (i := 7) (l' := #[true, true, true, true, true, true, true, true, false, false]) rfl rfl rfl (fun _ _ h => h) (by kernel_rfl) rfl (rp_nilCheck_ad rfl rfl) ?_))
    (first | (refine AN.rp (i := 8) (l' := #[true, true, true, true, true, true, true, true, true, false]) rfl rfl rfl (fun _ _ h => h) (by kernel_rfl) rfl (rp_field_ref Tryd.underlying128 rfl rfl rfl inf126 (by decide) rfl) ?_) | (refine AN.rp (i := 8) (l' := #[true, true, true, true, true, true, true, true, true, false]) rfl rfl rfl (fun _ _ h => h) (by kernel_rfl) rfl (rp_field_ad Tryd.underlying128 rfl rfl rfl inf126 (by decide) rfl) ?_))
    refine AN.br1 (i := 9) (by kernel_rfl) ?_
    refine BR.mk (l' := #[true, true, true, true, true, true, true, true, true, true]) rfl rfl rfl ?_
    (first | (refine ST.st (st_store_map2 inf126 rfl rfl rfl rfl rfl rfl rfl rfl (by first | assumption | omega)) ?_) | (refine ST.st (st_store inf126 rfl rfl rfl rfl rfl rfl rfl (by first | decide | (simp; done)) rfl) ?_))
    refine AN.nil (by kernel_rfl) ?_
    show Less _ _
    (try simp only [S.put, S.newObj, setL, V.cs, List.length_cons, List.length_nil, List.take_succ_cons, List.take_zero, List.drop_succ_cons, List.drop_zero, List.drop_nil, List.nil_append, List.cons_append, List.append_nil, Nat.zero_add, Nat.reduceAdd, List.map_cons, List.map_nil, List.set_cons_zero, List.set_cons_succ])
    try simp only [S.dd, ddL, List.contains_cons, List.contains_nil, Nat.reduceBEq, beq_self_eq_true, Bool.or_false, Bool.or_true, Bool.false_or, Bool.true_or, Bool.or_self, if_true, if_false, Bool.false_eq_true, ↓reduceIte]
    exact (Less.of rfl (by repeat (first | exact trivial | refine ⟨⟨_, rfl, Wk.refl _⟩, ?_⟩)) (by repeat (first | exact trivial | refine ⟨rfl, ?_⟩)) rfl)
  ·refine BR.mk (l' := #[false, true, false, true, false, false, false, false, false, false]) rfl rfl rfl ?_
   (first | (refine ST.sm (sm_makeMap2 false 5 810 811 rfl (by first | rfl | simp [S.clean, S.put, S.newObj, S.forget, V.has, V.hasL, junkIf, setL, V.cs, hasL_i, hasL_vd, hasL_vdt, hasL_d, hasL_b, hasL_s, hasL_n, hasL_rep, hasL_flat, hasL_append, -List.map_set]) rfl rfl rfl) ?_) | (refine ST.sm (sm_makeMap 811 rfl (by first | rfl | simp [S.clean, S.put, S.newObj, S.forget, V.has, V.hasL, junkIf, setL, V.cs, hasL_i, hasL_vd, hasL_vdt, hasL_d, hasL_b, hasL_s, hasL_n, hasL_rep, hasL_flat, hasL_append, -List.map_set]) rfl) ?_))
   try simp only [S.put, List.map_cons, List.map_nil, rowMap, to2_d, to2_ref, to2_own, to2_junk, to2_F, to2_T, List.getElem_toArray, List.getElem_cons_zero, List.getElem_cons_succ, List.set_cons_zero, List.set_cons_succ, Bool.not_true, Bool.not_false, if_true, if_false, Bool.false_eq_true, ↓reduceIte]
   refine AN.br2 (i := 0) (j := 2) (by kernel_rfl) ?_ ?_
   ·refine BR.mk (l' := #[true, true, false, true, false, false, false, false, false, false]) rfl rfl rfl ?_
    (first | (refine ST.rd rfl (rd_load_ref Tryd.underlying112 rfl rfl rfl rfl rfl rfl) ?_) | (refine ST.rd rfl (rd_load_ad Tryd.underlying112 rfl rfl rfl rfl) ?_) | (refine ST.rd rfl (rd_load_map Tryd.underlying112 rfl rfl rfl rfl rfl rfl (by assumption)) ?_) | (refine ST.rd rfl (rd_load_flat Tryd.underlying112 rfl rfl rfl rfl rfl rfl (fun _ => rfl) (by assumption) rfl) ?_))
    refine AN.br1 (i := 2) (by kernel_rfl) ?_
    refine BR.mk (l' := #[true, true, true, true, false, false, false, false, false, false]) rfl rfl rfl ?_
    (first | (refine ST.sm (sm_makeMap2 true 6 810 811 rfl (by first | rfl | simp [S.clean, S.put, S.newObj, S.forget, V.has, V.hasL, junkIf, setL, V.cs, hasL_i, hasL_vd, hasL_vdt, hasL_d, hasL_b, hasL_s, hasL_n, hasL_rep, hasL_flat, hasL_append, -List.map_set]) rfl rfl rfl) ?_) | (refine ST.sm (sm_makeMap 810 rfl (by first | rfl | simp [S.clean, S.put, S.newObj, S.forget, V.has, V.hasL, junkIf, setL, V.cs, hasL_i, hasL_vd, hasL_vdt, hasL_d, hasL_b, hasL_s, hasL_n, hasL_rep, hasL_flat, hasL_append, -List.map_set]) rfl) ?_))
    try simp only [S.put, List.map_cons, List.map_nil, rowMap, to2_d, to2_ref, to2_own, to2_junk, to2_F, to2_T, List.getElem_toArray, List.getElem_cons_zero, List.getElem_cons_succ, List.set_cons_zero, List.set_cons_succ, Bool.not_true, Bool.not_false, if_true, if_false, Bool.false_eq_true, ↓reduceIte]
    (first | (refine AN.rp (i := 4) (l' := #[true, true, true, true, true, false, false, false, false, false]) rfl rfl rfl (fun _ _ h => h) (by kernel_rfl) rfl (rp_nilCheck rfl rfl) ?_) | (refine AN.rp (i := 4) (l' := #[true, true, true, true, true, false, false, false, false, false]) rfl rfl rfl (fun _ _ h => h) (by kernel_rfl) rfl (rp_nilCheck_ad rfl rfl) ?_))
    (first | (refine AN.rp (i := 5) (l' := #[true, true, true, true, true, true, false, false, false, false]) rfl rfl rfl (fun _ _ h => h) (by kernel_rfl) rfl (rp_field_ref Tryd.underlying128 rfl rfl rfl inf125 (by decide) rfl) ?_) | (refine AN.rp (i := 5) (l' := #[true, true, true, true, true, true, false, false, false, false]) rfl rfl rfl (fun _ _ h => h) (by kernel_rfl) rfl (rp_field_ad Tryd.underlying128 rfl rfl rfl inf125 (by decide) rfl) ?_))
    refine AN.br1 (i := 6) (by kernel_rfl) ?_
    refine BR.mk (l' := #[true, true, true, true, true, true, true, false, false, false]) rfl rfl rfl ?_
    (first | (refine ST.st (st_store_map2 inf125 rfl rfl rfl rfl rfl rfl rfl rfl (by first | assumption | omega)) ?_) | (refine ST.st (st_store inf125 rfl rfl rfl rfl rfl rfl rfl (by first | decide | (simp; done)) rfl) ?_))
    (first | (refine AN.rp (i := 7) (l' := #[true, true, true, true, true, true, true, true, false, false]) rfl rfl rfl (fun _ _ h => h) (by kernel_rfl) rfl (rp_nilCheck rfl rfl) ?_) | (refine AN.rp (i := 7) (l' := #[true, true, true, true, true, true, true, true, false, false]) rfl rfl rfl (fun _ _ h => h) (by kernel_rfl) rfl (rp_nilCheck_ad rfl rfl) ?_))
    (first | (refine AN.rp (i := 8) (l' := #[true, true, true, true, true, true, true, true, true, false]) rfl rfl rfl (fun _ _ h => h) (by kernel_rfl) rfl (rp_field_ref Tryd.underlying128 rfl rfl rfl inf126 (by decide) rfl) ?_) | (refine AN.rp (i := 8) (l' := #[true, true, true, true, true, true, true, true, true, false]) rfl rfl rfl (fun _ _ h => h) (by kernel_rfl) rfl (rp_field_ad Tryd.underlying128 rfl rfl rfl inf126 (by decide) rfl) ?_))
    refine AN.br1 (i := 9) (by kernel_rfl) ?_
    refine BR.mk (l' := #[true, true, true, true, true, true, true, true, true, true]) rfl rfl rfl ?_
    (first | (refine ST.st (st_store_map2 inf126 rfl rfl rfl rfl rfl rfl rfl rfl (by first | assumption | omega)) ?_) | (refine ST.st (st_store inf126 rfl rfl rfl rfl rfl rfl rfl (by first | decide | (simp; done)) rfl) ?_))
    refine AN.nil (by kernel_rfl) ?_
    show Less _ _
    (try simp only [S.put, S.newObj, setL, V.cs, List.length_cons, List.length_nil, List.take_succ_cons, List.take_zero, List.drop_succ_cons, List.drop_zero, List.drop_nil, List.nil_append, List.cons_append, List.append_nil, Nat.zero_add, Nat.reduceAdd, List.map_cons, List.map_nil, List.set_cons_zero, List.set_cons_succ])
    try simp only [S.dd, ddL, List.contains_cons, List.contains_nil, Nat.reduceBEq, beq_self_eq_true, Bool.or_false, Bool.or_true, Bool.false_or, Bool.true_or, Bool.or_self, if_true, if_false, Bool.false_eq_true, ↓reduceIte]
    exact (Less.of rfl (by repeat (first | exact trivial | refine ⟨⟨_, rfl, Wk.refl _⟩, ?_⟩)) (by repeat (first | exact trivial | refine ⟨rfl, ?_⟩)) rfl)
   ·refine BR.mk (l' := #[false, true, true, true, false, false, false, false, false, false]) rfl rfl rfl ?_
    (first | (refine ST.sm (sm_makeMap2 true 6 810 811 rfl (by first | rfl | simp [S.clean, S.put, S.newObj, S.forget, V.has, V.hasL, junkIf, setL, V.cs, hasL_i, hasL_vd, hasL_vdt, hasL_d, hasL_b, hasL_s, hasL_n, hasL_rep, hasL_flat, hasL_append, -List.map_set]) rfl rfl rfl) ?_) | (refine ST.sm (sm_makeMap 810 rfl (by first | rfl | simp [S.clean, S.put, S.newObj, S.forget, V.has, V.hasL, junkIf, setL, V.cs, hasL_i, hasL_vd, hasL_vdt, hasL_d, hasL_b, hasL_s, hasL_n, hasL_rep, hasL_flat, hasL_append, -List.map_set]) rfl) ?_))
    try simp only [S.put, List.map_cons, List.map_nil, rowMap, to2_d, to2_ref, to2_own, to2_junk, to2_F, to2_T, List.getElem_toArray, List.getElem_cons_zero, List.getElem_cons_succ, List.set_cons_zero, List.set_cons_succ, Bool.not_true, Bool.not_false, if_true, if_false, Bool.false_eq_true, ↓reduceIte]
    refine AN.br1 (i := 0) (by kernel_rfl) ?_
    refine BR.mk (l' := #[true, true, true, true, false, false, false, false, false, false]) rfl rfl rfl ?_
    (first | (refine ST.rd rfl (rd_load_ref Tryd.underlying112 rfl rfl rfl rfl rfl rfl) ?_) | (refine ST.rd rfl (rd_load_ad Tryd.underlying112 rfl rfl rfl rfl) ?_) | (refine ST.rd rfl (rd_load_map Tryd.underlying112 rfl rfl rfl rfl rfl rfl (by assumption)) ?_) | (refine ST.rd rfl (rd_load_flat Tryd.underlying112 rfl rfl rfl rfl rfl rfl (fun _ => rfl) (by assumption) rfl) ?_))
    (first | (refine AN.rp (i := 4) (l' := #[true, true, true, true, true, false, false, false, false, false]) rfl rfl rfl (fun _ _ h => h) (by kernel_rfl) rfl (rp_nilCheck rfl rfl) ?_) | (refine AN.rp (i := 4) (l' := #[true, true, true, true, true, false, false, false, false, false]) rfl rfl rfl (fun _ _ h => h) (by kernel_rfl) rfl (rp_nilCheck_ad rfl rfl) ?_))
    (first | (refine AN.rp (i := 5) (l' := #[true, true, true, true, true, true, false, false, false, false]) rfl rfl rfl (fun _ _ h => h) (by kernel_rfl) rfl (rp_field_ref Tryd.underlying128 rfl rfl rfl inf125 (by decide) rfl) ?_) | (refine AN.rp (i := 5) (l' := #[true, true, true, true, true, true, false, false, false, false]) rfl rfl rfl (fun _ _ h => h) (by kernel_rfl) rfl (rp_field_ad Tryd.underlying128 rfl rfl rfl inf125 (by decide) rfl) ?_))
    refine AN.br1 (i := 6) (by kernel_rfl) ?_
    refine BR.mk (l' := #[true, true, true, true, true, true, true, false, false, false]) rfl rfl rfl ?_
    (first | (refine ST.st (st_store_map2 inf125 rfl rfl rfl rfl rfl rfl rfl rfl (by first | assumption | omega)) ?_) | (refine ST.st (st_store inf125 rfl rfl rfl rfl rfl rfl rfl (by first | decide | (simp; done)) rfl) ?_))
    (first | (refine AN.rp (i := 7) (l' := #[true, true, true, true, true, true, true, true, false, false]) rfl rfl rfl (fun _ _ h => h) (by kernel_rfl) rfl (rp_nilCheck rfl rfl) ?_) | (refine AN.rp (i := 7) (l' := #[true, true, true, true, true, true, true, true, false, false]) rfl rfl rfl (fun _ _ h => h) (by kernel_rfl) rfl (rp_nilCheck_ad rfl rfl) ?_))
    (first | (refine AN.rp (i := 8) (l' := #[true, true, true, true, true, true, true, true, true, false]) rfl rfl rfl (fun _ _ h => h) (by kernel_rfl) rfl (rp_field_ref Tryd.underlying128 rfl rfl rfl inf126 (by decide) rfl) ?_) | (refine AN.rp (i := 8) (l' := #[true, true, true, true, true, true, true, true, true, false]) rfl rfl rfl (fun _ _ h => h) (by kernel_rfl) rfl (rp_field_ad Tryd.underlying128 rfl rfl rfl inf126 (by decide) rfl) ?_))
    refine AN.br1 (i := 9) (by kernel_rfl) ?_
    refine BR.mk (l' := #[true, true, true, true, true, true, true, true, true, true]) rfl rfl rfl ?_
    (first | (refine ST.st (st_store_map2 inf126 rfl rfl rfl rfl rfl rfl rfl rfl (by first | assumption | omega)) ?_) | (refine ST.st (st_store inf126 rfl rfl rfl rfl rfl rfl rfl (by first | decide | (simp; done)) rfl) ?_))
    refine AN.nil (by kernel_rfl) ?_
    show Less _ _
    (try simp only [S.put, S.newObj, setL, V.cs, List.length_cons, List.length_nil, List.take_succ_cons, List.take_zero, List.drop_succ_cons, List.drop_zero, List.drop_nil, List.nil_append, List.cons_append, List.append_nil, Nat.zero_add, Nat.reduceAdd, List.map_cons, List.map_nil, List.set_cons_zero, List.set_cons_succ])
    try simp only [S.dd, ddL, List.contains_cons, List.contains_nil, Nat.reduceBEq, beq_self_eq_true, Bool.or_false, Bool.or_true, Bool.false_or, Bool.true_or, Bool.or_self, if_true, if_false, Bool.false_eq_true, ↓reduceIte]
    exact (Less.of rfl (by repeat (first | exact trivial | refine ⟨⟨_, rfl, Wk.refl _⟩, ?_⟩)) (by repeat (first | exact trivial | refine ⟨rfl, ?_⟩)) rfl)
 ·refine BR.mk (l' := #[false, false, true, false, false, false, false, false, false, false]) rfl rfl rfl ?_
  (first | (refine ST.sm (sm_makeMap2 true 6 810 811 rfl (by first | rfl | simp [S.clean, S.put, S.newObj, S.forget, V.has, V.hasL, junkIf, setL, V.cs, hasL_i, hasL_vd, hasL_vdt, hasL_d, hasL_b, hasL_s, hasL_n, hasL_rep, hasL_flat, hasL_append, -List.map_set]) rfl rfl rfl) ?_) | (refine ST.sm (sm_makeMap 810 rfl (by first | rfl | simp [S.clean, S.put, S.newObj, S.forget, V.has, V.hasL, junkIf, setL, V.cs, hasL_i, hasL_vd, hasL_vdt, hasL_d, hasL_b, hasL_s, hasL_n, hasL_rep, hasL_flat, hasL_append, -List.map_set]) rfl) ?_))
  try simp only [S.put, List.map_cons, List.map_nil, rowMap, to2_d, to2_ref, to2_own, to2_junk, to2_F, to2_T, List.getElem_toArray, List.getElem_cons_zero, List.getElem_cons_succ, List.set_cons_zero, List.set_cons_succ, Bool.not_true, Bool.not_false, if_true, if_false, Bool.false_eq_true, ↓reduceIte]
  refine AN.br3 (i := 0) (j := 1) (k := 3) (by kernel_rfl) ?_ ?_ ?_
  ·refine BR.mk (l' := #[true, false, true, false, false, false, false, false, false, false]) rfl rfl rfl ?_
   (first | (refine ST.rd rfl (rd_load_ref Tryd.underlying112 rfl rfl rfl rfl rfl rfl) ?_) | (refine ST.rd rfl (rd_load_ad Tryd.underlying112 rfl rfl rfl rfl) ?_) | (refine ST.rd rfl (rd_load_map Tryd.underlying112 rfl rfl rfl rfl rfl rfl (by assumption)) ?_) | (refine ST.rd rfl (rd_load_flat Tryd.underlying112 rfl rfl rfl rfl rfl rfl (fun _ => rfl) (by assumption) rfl) ?_))
   (first | (refine AN.rp (i := 4) (l' := #[true, false, true, false, true, false, false, false, false, false]) rfl rfl rfl (fun _ _ h => h) (by kernel_rfl) rfl (rp_nilCheck rfl rfl) ?_) | (refine AN.rp (i := 4) (l' := #[true, false, true, false, true, false, false, false, false, false]) rfl rfl rfl (fun _ _ h => h) (by kernel_rfl) rfl (rp_nilCheck_ad rfl rfl) ?_))
   (first | (refine AN.rp (i := 5) (l' := #[true, false, true, false, true, true, false, false, false, false]) rfl rfl rfl (fun _ _ h => h) (by kernel_rfl) rfl (rp_field_ref Tryd.underlying128 rfl rfl rfl inf125 (by decide) rfl) ?_) | (refine AN.rp (i := 5) (l' := #[true, false, true, false, true, true, false, false, false, false]) rfl rfl rfl (fun _ _ h => h) (by kernel_rfl) rfl (rp_field_ad Tryd.underlying128 rfl rfl rfl inf125 (by decide) rfl) ?_))
   refine AN.br3 (i := 1) (j := 3) (k := 6) (by kernel_rfl) ?_ ?_ ?_
   ·refine BR.mk (l' := #[true, true, true, false, true, true, false, false, false, false]) rfl rfl rfl ?_
    (first | (refine ST.rd rfl (rd_load_ref Tryd.underlying112 rfl rfl rfl rfl rfl rfl) ?_) | (refine ST.rd rfl (rd_load_ad Tryd.underlying112 rfl rfl rfl rfl) ?_) | (refine ST.rd rfl (rd_load_map Tryd.underlying112 rfl rfl rfl rfl rfl rfl (by assumption)) ?_) | (refine ST.rd rfl (rd_load_flat Tryd.underlying112 rfl rfl rfl rfl rfl rfl (fun _ => rfl) (by assumption) rfl) ?_))
    refine AN.br2 (i := 3) (j := 6) (by kernel_rfl) ?_ ?_
    ·refine BR.mk (l' := #[true, true, true, true, true, true, false, false, false, false]) rfl rfl rfl ?_
     (first | (refine ST.sm (sm_makeMap2 false 5 810 811 rfl (by first | rfl | simp [S.clean, S.put, S.newObj, S.forget, V.has, V.hasL, junkIf, setL, V.cs, hasL_i, hasL_vd, hasL_vdt, hasL_d, hasL_b, hasL_s, hasL_n, hasL_rep, hasL_flat, hasL_append, -List.map_set]) rfl rfl rfl) ?_) | (refine ST.sm (sm_makeMap 811 rfl (by first | rfl | simp [S.clean, S.put, S.newObj, S.forget, V.has, V.hasL, junkIf, setL, V.cs, hasL_i, hasL_vd, hasL_vdt, hasL_d, hasL_b, hasL_s, hasL_n, hasL_rep, hasL_flat, hasL_append, -List.map_set]) rfl) ?_))
     try simp only [S.put, List.map_cons, List.map_nil, rowMap, to2_d, to2_ref, to2_own, to2_junk, to2_F, to2_T, List.getElem_toArray, List.getElem_cons_zero, List.getElem_cons_succ, List.set_cons_zero, List.set_cons_succ, Bool.not_true, Bool.not_false, if_true, if_false, Bool.false_eq_true, ↓reduceIte]
     refine AN.br1 (i := 6) (by kernel_rfl) ?_
     refine BR.mk (l' := #[true, true, true, true, true, true, true, false, false, false]) rfl rfl rfl ?_
     (first | (refine ST.st (st_store_map2 inf125 rfl rfl rfl rfl rfl rfl rfl rfl (by first | assumption | omega)) ?_) | (refine ST.st (st_store inf125 rfl rfl rfl rfl rfl rfl rfl (by first | decide | (simp; done)) rfl) ?_))
     (first | (refine AN.rp (i := 7) (l' := #[true, true, true, true, true, true, true, true, false, false]) rfl rfl rfl (fun _ _ h => h) (by kernel_rfl) rfl (rp_nilCheck rfl rfl) ?_) | (refine AN.rp (i := 7) (l' := #[true, true, true, true, true, true, true, true, false, false]) rfl rfl rfl (fun _ _ h => h) (by kernel_rfl) rfl (rp_nilCheck_ad rfl rfl) ?_))
     (first | (refine AN.rp (i := 8) (l' := #[true, true, true, true, true, true, true, true, true, false]) rfl rfl rfl (fun _ _ h => h) (by kernel_rfl) rfl (rp_field_ref Tryd.underlying128 rfl rfl rfl inf126 (by decide) rfl) ?_) | (refine AN.rp (i := 8) (l' := #[true, true, true, true, true, true, true, true, true, false]) rfl rfl rfl (fun _ _ h => h) (by kernel_rfl) rfl (rp_field_ad Tryd.underlying128 rfl rfl rfl inf126 (by decide) rfl) ?_))
     refine AN.br1 (i := 9) (by kernel_rfl) ?_
     refine BR.mk (l' := #[true, true, true, true, true, true, true, true, true, true]) rfl rfl rfl ?_
     (first | (refine ST.st (st_store_map2 inf126 rfl rfl rfl rfl rfl rfl rfl rfl (by first | assumption | omega)) ?_) | (refine ST.st (st_store inf126 rfl rfl rfl rfl rfl rfl rfl (by first | decide | (simp; done)) rfl) ?_))
     refine AN.nil (by kernel_rfl) ?_
     show Less _ _
     (try simp only [S.put, S.newObj, setL, V.cs, List.length_cons, List.length_nil, List.take_succ_cons, List.take_zero, List.drop_succ_cons, List.drop_zero, List.drop_nil, List.nil_append, List.cons_append, List.append_nil, Nat.zero_add, Nat.reduceAdd, List.map_cons, List.map_nil, List.set_cons_zero, List.set_cons_succ])
     try simp only [S.dd, ddL, List.contains_cons, List.contains_nil, Nat.reduceBEq, beq_self_eq_true, Bool.or_false, Bool.or_true, Bool.false_or, Bool.true_or, Bool.or_self, if_true, if_false, Bool.false_eq_true, ↓reduceIte]
     exact (Less.of rfl (by repeat (first | exact trivial | refine ⟨⟨_, rfl, Wk.refl _⟩, ?_⟩)) (by repeat (first | exact trivial | refine ⟨rfl, ?_⟩)) rfl)
    ·refine BR.mk (l' := #[true, true, true, false, true, true, true, false, false, false]) rfl rfl rfl ?_
     (first | (refine ST.st (st_store_map2 inf125 rfl rfl rfl rfl rfl rfl rfl rfl (by first | assumption | omega)) ?_) | (refine ST.st (st_store inf125 rfl rfl rfl rfl rfl rfl rfl (by first | decide | (simp; done)) rfl) ?_))
     refine AN.br1 (i := 3) (by kernel_rfl) ?_
     refine BR.mk (l' := #[true, true, true, true, true, true, true, false, false, false]) rfl rfl rfl ?_
     (first | (refine ST.sm (sm_makeMap2 false 5 810 811 rfl (by first | rfl | simp [S.clean, S.put, S.newObj, S.forget, V.has, V.hasL, junkIf, setL, V.cs, hasL_i, hasL_vd, hasL_vdt, hasL_d, hasL_b, hasL_s, hasL_n, hasL_rep, hasL_flat, hasL_append, -List.map_set]) rfl rfl rfl) ?_) | (refine ST.sm (sm_makeMap 811 rfl (by first | rfl | simp [S.clean, S.put, S.newObj, S.forget, V.has, V.hasL, junkIf, setL, V.cs, hasL_i, hasL_vd, hasL_vdt, hasL_d, hasL_b, hasL_s, hasL_n, hasL_rep, hasL_flat, hasL_append, -List.map_set]) rfl) ?_))
     try simp only [S.put, List.map_cons, List.map_nil, rowMap, to2_d, to2_ref, to2_own, to2_junk, to2_F, to2_T, List.getElem_toArray, List.getElem_cons_zero, List.getElem_cons_succ, List.set_cons_zero, List.set_cons_succ, Bool.not_true, Bool.not_false, if_true, if_false, Bool.false_eq_true, ↓reduceIte]
     (first | (refine AN.rp (i := 7) (l' := #[true, true, true, true, true, true, true, true, false, false]) rfl rfl rfl (fun _ _ h => h) (by kernel_rfl) rfl (rp_nilCheck rfl rfl) ?_) | (refine AN.rp (i := 7) (l' := #[true, true, true, true, true, true, true, true, false, false]) rfl rfl rfl (fun _ _ h => h) (by kernel_rfl) rfl (rp_nilCheck_ad rfl rfl) ?_))
     (first | (refine AN.rp (i := 8) (l' := #[true, true, true, true, true, true, true, true, true, false]) rfl rfl rfl (fun _ _ h => h) (by kernel_rfl) rfl (rp_field_ref Tryd.underlying128 rfl rfl rfl inf126 (by decide) rfl) ?_) | (refine AN.rp (i := 8) (l' := #[true, true, true, true, true, true, true, true, true, false]) rfl rfl rfl (fun _ _ h => h) (by kernel_rfl) rfl (rp_field_ad Tryd.underlying128 rfl rfl rfl inf126 (by decide) rfl) ?_))
     refine AN.br1 (i := 9) (by kernel_rfl) ?_
     refine BR.mk (l' := #[true, true, true, true, true, true, true, true, true, true]) rfl rfl rfl ?_
     (first | (refine ST.st (st_store_map2 inf126 rfl rfl rfl rfl rfl rfl rfl rfl (by first | assumption | omega)) ?_) | (refine ST.st (st_store inf126 rfl rfl rfl rfl rfl rfl rfl (by first | decide | (simp; done)) rfl) ?_))
     refine AN.nil (by kernel_rfl) ?_
     show Less _ _
     (try simp only [S.put, S.newObj, setL, V.cs, List.length_cons, List.length_nil, List.take_succ_cons, List.take_zero, List.drop_succ_cons, List.drop_zero, List.drop_nil, List.nil_append, List.cons_append, List.append_nil, Nat.zero_add, Nat.reduceAdd, List.map_cons, List.map_nil, List.set_cons_zero, List.set_cons_succ])
     try simp only [S.dd, ddL, List.contains_cons, List.contains_nil, Nat.reduceBEq, beq_self_eq_true, Bool.or_false, Bool.or_true, Bool.false_or, Bool.true_or, Bool.or_self, if_true, if_false, Bool.false_eq_true, ↓reduceIte]
     exact (Less.of rfl (by repeat (first | exact trivial | refine ⟨⟨_, rfl, Wk.refl _⟩, ?_⟩)) (by repeat (first | exact trivial | refine ⟨rfl, ?_⟩)) rfl)
   ·refine BR.mk (l' := #[true, false, true, true, true, true, false, false, false, false]) rfl rfl rfl ?_
    (first | (refine ST.sm (sm_makeMap2 false 5 810 811 rfl (by first | rfl | simp [S.clean, S.put, S.newObj, S.forget, V.has, V.hasL, junkIf, setL, V.cs, hasL_i, hasL_vd, hasL_vdt, hasL_d, hasL_b, hasL_s, hasL_n, hasL_rep, hasL_flat, hasL_append, -List.map_set]) rfl rfl rfl) ?_) | (refine ST.sm (sm_makeMap 811 rfl (by first | rfl | simp [S.clean, S.put, S.newObj, S.forget, V.has, V.hasL, junkIf, setL, V.cs, hasL_i, hasL_vd, hasL_vdt, hasL_d, hasL_b, hasL_s, hasL_n, hasL_rep, hasL_flat, hasL_append, -List.map_set]) rfl) ?_))
    try simp only [S.put, List.map_cons, List.map_nil, rowMap, to2_d, to2_ref, to2_own, to2_junk, to2_F, to2_T, List.getElem_toArray, List.getElem_cons_zero, List.getElem_cons_succ, List.set_cons_zero, List.set_cons_succ, Bool.not_true, Bool.not_false, if_true, if_false, Bool.false_eq_true, ↓reduceIte]
    refine AN.br2 (i := 1) (j := 6) (by kernel_rfl) ?_ ?_
    ·refine BR.mk (l' := #[true, true, true, true, true, true, false, false, false, false]) rfl rfl rfl ?_
     (first | (refine ST.rd rfl (rd_load_ref Tryd.underlying112 rfl rfl rfl rfl rfl rfl) ?_) | (refine ST.rd rfl (rd_load_ad Tryd.underlying112 rfl rfl rfl rfl) ?_) | (refine ST.rd rfl (rd_load_map Tryd.underlying112 rfl rfl rfl rfl rfl rfl (by assumption)) ?_) | (refine ST.rd rfl (rd_load_flat Tryd.underlying112 rfl rfl rfl rfl rfl rfl (fun _ => rfl) (by assumption) rfl) ?_))
     refine AN.br1 (i := 6) (by kernel_rfl) ?_
     refine BR.mk (l' := #[true, true, true, true, true, true, true, false, false, false]) rfl rfl rfl ?_
     (first | (refine ST.st (st_store_map2 inf125 rfl rfl rfl rfl rfl rfl rfl rfl (by first | assumption | omega)) ?_) | (refine ST.st (st_store inf125 rfl rfl rfl rfl rfl rfl rfl (by first | decide | (simp; done)) rfl) ?_))
     (first | (refine AN.rp (i := 7) (l' := #[true, true, true, true, true, true, true, true, false, false]) rfl rfl rfl (fun _ _ h => h) (by kernel_rfl) rfl (rp_nilCheck rfl rfl) ?_) | (refine AN.rp (i := 7) (l' := #[true, true, true, true, true, true, true, true, false, false]) rfl rfl rfl (fun _ _ h => h) (by kernel_rfl) rfl (rp_nilCheck_ad rfl rfl) ?_))
     (first | (refine AN.rp (i := 8) (l' := #[true, true, true, true, true, true, true, true, true, false]) rfl rfl rfl (fun _ _ h => h) (by kernel_rfl) rfl (rp_field_ref Tryd.underlying128 rfl rfl rfl inf126 (by decide) rfl) ?_) | (refine AN.rp (i := 8) (l' := #[true, true, true, true, true, true, true, true, true, false]) rfl rfl rfl (fun _ _ h => h) (by kernel_rfl) rfl (rp_field_ad Tryd.underlying128 rfl rfl rfl inf126 (by decide) rfl) ?_))
     refine AN.br1 (i := 9) (by kernel_rfl) ?_
     refine BR.mk (l' := #[true, true, true, true, true, true, true, true, true, true]) rfl rfl rfl ?_
     (first | (refine ST.st (st_store_map2 inf126 rfl rfl rfl rfl rfl rfl rfl rfl (by first | assumption | omega)) ?_) | (refine ST.st (st_store inf126 rfl rfl rfl rfl rfl rfl rfl (by first | decide | (simp; done)) rfl) ?_))
     refine AN.nil (by kernel_rfl) ?_
     show Less _ _
     (try simp only [S.put, S.newObj, setL, V.cs, List.length_cons, List.length_nil, List.take_succ_cons, List.take_zero, List.drop_succ_cons, List.drop_zero, List.drop_nil, List.nil_append, List.cons_append, List.append_nil, Nat.zero_add, Nat.reduceAdd, List.map_cons, List.map_nil, List.set_cons_zero, List.set_cons_succ])
     try simp only [S.dd, ddL, List.contains_cons, List.contains_nil, Nat.reduceBEq, beq_self_eq_true, Bool.or_false, Bool.or_true, Bool.false_or, Bool.true_or, Bool.or_self, if_true, if_false, Bool.false_eq_true, ↓reduceIte]
     exact (Less.of rfl (by repeat (first | exact trivial | refine ⟨⟨_, rfl, Wk.refl _⟩, ?_⟩)) (by repeat (first | exact trivial | refine ⟨rfl, ?_⟩)) rfl)
    ·refine BR.mk (l' := #[true, false, true, true, true, true, true, false, false, false]) rfl rfl rfl ?_
     (first | (refine ST.st (st_store_map2 inf125 rfl rfl rfl rfl rfl rfl rfl rfl (by first | assumption | omega)) ?_) | (refine ST.st (st_store inf125 rfl rfl rfl rfl rfl rfl rfl (by first | decide | (simp; done)) rfl) ?_))
     refine AN.br1 (i := 1) (by kernel_rfl) ?_
     refine BR.mk (l' := #[true, true, true, true, true, true, true, false, false, false]) rfl rfl rfl ?_
     (first | (refine ST.rd rfl (rd_load_ref Tryd.underlying112 rfl rfl rfl rfl rfl rfl) ?_) | (refine ST.rd rfl (rd_load_ad Tryd.underlying112 rfl rfl rfl rfl) ?_) | (refine ST.rd rfl (rd_load_map Tryd.underlying112 rfl rfl rfl rfl rfl rfl (by assumption)) ?_) | (refine ST.rd rfl (rd_load_flat Tryd.underlying112 rfl rfl rfl rfl rfl rfl (fun _ => rfl) (by assumption) rfl) ?_))
     (first | (refine AN.rp (i := 7) (l' := #[true, true, true, true, true, true, true, true, false, false]) rfl rfl rfl (fun _ _ h => h) (by kernel_rfl) rfl (rp_nilCheck rfl rfl) ?_) | (refine AN.rp (i := 7) (l' := #[true, true, true, true, true, true, true, true, false, false]) rfl rfl rfl (fun _ _ h => h) (by kernel_rfl) rfl (rp_nilCheck_ad rfl rfl) ?_))
     (first | (refine AN.rp (i := 8) (l' := #[true, true, true, true, true, true, true, true, true, false]) rfl rfl rfl (fun _ _ h => h) (by kernel_rfl) rfl (rp_field_ref Tryd.underlying128 rfl rfl rfl inf126 (by decide) rfl) ?_) | (refine AN.rp (i := 8) (l' := #[true, true, true, true, true, true, true, true, true, false]) rfl rfl rfl (fun _ _ h => h) (by kernel_rfl) rfl (rp_field_ad Tryd.underlying128 rfl rfl rfl inf126 (by decide) rfl) ?_))
     refine AN.br1 (i := 9) (by kernel_rfl) ?_
     refine BR.mk (l' := #[true, true, true, true, true, true, true, true, true, true]) rfl rfl rfl ?_
     (first | (refine ST.st (st_store_map2 inf126 rfl rfl rfl rfl rfl rfl rfl rfl (by first | assumption | omega)) ?_) | (refine ST.st (st_store inf126 rfl rfl rfl rfl rfl rfl rfl (by first | decide | (simp; done)) rfl) ?_))
     refine AN.nil (by kernel_rfl) ?_
     show Less _ _
     (try simp only [S.put, S.newObj, setL, V.cs, List.length_cons, List.length_nil, List.take_succ_cons, List.take_zero, List.drop_succ_cons, List.drop_zero, List.drop_nil, List.nil_append, List.cons_append, List.append_nil, Nat.zero_add, Nat.reduceAdd, List.map_cons, List.map_nil, List.set_cons_zero, List.set_cons_succ])
     try simp only [S.dd, ddL, List.contains_cons, List.contains_nil, Nat.reduceBEq, beq_self_eq_true, Bool.or_false, Bool.or_true, Bool.false_or, Bool.true_or, Bool.or_self, if_true, if_false, Bool.false_eq_true, ↓reduceIte]
     exact (Less.of rfl (by repeat (first | exact trivial | refine ⟨⟨_, rfl, Wk.refl _⟩, ?_⟩)) (by repeat (first | exact trivial | refine ⟨rfl, ?_⟩)) rfl)
   ·refine BR.mk (l' := #[true, false, true, false, true, true, true, false, false, false]) rfl rfl rfl ?_
    (first | (refine ST.st (st_store_map2 inf125 rfl rfl rfl rfl rfl rfl rfl rfl (by first | assumption | omega)) ?_) | (refine ST.st (st_store inf125 rfl rfl rfl rfl rfl rfl rfl (by first | decide | (simp; done)) rfl) ?_))
    refine AN.br2 (i := 1) (j := 3) (by kernel_rfl) ?_ ?_
    ·refine BR.mk (l' := #[true, true, true, false, true, true, true, false, false, false]) rfl rfl rfl ?_
     (first | (refine ST.rd rfl (rd_load_ref Tryd.underlying112 rfl rfl rfl rfl rfl rfl) ?_) | (refine ST.rd rfl (rd_load_ad Tryd.underlying112 rfl rfl rfl rfl) ?_) | (refine ST.rd rfl (rd_load_map Tryd.underlying112 rfl rfl rfl rfl rfl rfl (by assumption)) ?_) | (refine ST.rd rfl (rd_load_flat Tryd.underlying112 rfl rfl rfl rfl rfl rfl (fun _ => rfl) (by assumption) rfl) ?_))
     refine AN.br1 (i := 3) (by kernel_rfl) ?_
     refine BR.mk (l' := #[true, true, true, true, true, true, true, false, false, false]) rfl rfl rfl ?_
     (first | (refine ST.sm (sm_makeMap2 false 5 810 811 rfl (by first | rfl | simp [S.clean, S.put, S.newObj, S.forget, V.has, V.hasL, junkIf, setL, V.cs, hasL_i, hasL_vd, hasL_vdt, hasL_d, hasL_b, hasL_s, hasL_n, hasL_rep, hasL_flat, hasL_append, -List.map_set]) rfl rfl rfl) ?_) | (refine ST.sm (sm_makeMap 811 rfl (by first | rfl | simp [S.clean, S.put, S.newObj, S.forget, V.has, V.hasL, junkIf, setL, V.cs, hasL_i, hasL_vd, hasL_vdt, hasL_d, hasL_b, hasL_s, hasL_n, hasL_rep, hasL_flat, hasL_append, -List.map_set]) rfl) ?_))
     try simp only [S.put, List.map_cons, List.map_nil, rowMap, to2_d, to2_ref, to2_own, to2_junk, to2_F, to2_T, List.getElem_toArray, List.getElem_cons_zero, List.getElem_cons_succ, List.set_cons_zero, List.set_cons_succ, Bool.not_true, Bool.not_false, if_true, if_false, Bool.false_eq_true, ↓reduceIte]
     (first | (refine AN.rp (i := 7) (l' := #[true, true, true, true, true, true, true, true, false, false]) rfl rfl rfl (fun _ _ h => h) (by kernel_rfl) rfl (rp_nilCheck rfl rfl) ?_) | (refine AN.rp (i := 7) (l' := #[true, true, true, true, true, true, true, true, false, false]) rfl rfl rfl (fun _ _ h => h) (by kernel_rfl) rfl (rp_nilCheck_ad rfl rfl) ?_))
     (first | (refine AN.rp (i := 8) (l' := #[true, true, true, true, true, true, true, true, true, false]) rfl rfl rfl (fun _ _ h => h) (by kernel_rfl) rfl (rp_field_ref Tryd.underlying128 rfl rfl rfl inf126 (by decide) rfl) ?_) | (refine AN.rp (i := 8) (l' := #[true, true, true, true, true, true, true, true, true, false]) rfl rfl rfl (fun _ _ h => h) (by kernel_rfl) rfl (rp_field_ad Tryd.underlying128 rfl rfl rfl inf126 (by decide) rfl) ?_))
     refine AN.br1 (i := 9) (by kernel_rfl) ?_
     refine BR.mk (l' := #[true, true, true, true, true, true, true, true, true, true]) rfl rfl rfl ?_
     (first | (refine ST.st (st_store_map2 inf126 rfl rfl rfl rfl rfl rfl rfl rfl (by first | assumption | omega)) ?_) | (refine ST.st (st_store inf126 rfl rfl rfl rfl rfl rfl rfl (by first | decide | (simp; done)) rfl) ?_))
     refine AN.nil (by kernel_rfl) ?_
     show Less _ _
     (try simp only [S.put, S.newObj, setL, V.cs, List.length_cons, List.length_nil, List.take_succ_cons, List.take_zero, List.drop_succ_cons, List.drop_zero, List.drop_nil, List.nil_append, List.cons_append, List.append_nil, Nat.zero_add, Nat.reduceAdd, List.map_cons, List.map_nil, List.set_cons_zero, List.set_cons_succ])
     try simp only [S.dd, ddL, List.contains_cons, List.contains_nil, Nat.reduceBEq, beq_self_eq_true, Bool.or_false, Bool.or_true, Bool.false_or, Bool.true_or, Bool.or_self, if_true, if_false, Bool.false_eq_true, ↓reduceIte]
     exact (Less.of rfl (by repeat (first | exact trivial | refine ⟨⟨_, rfl, Wk.refl _⟩, ?_⟩)) (by repeat (first | exact trivial | refine ⟨rfl, ?_⟩)) rfl)
    ·refine BR.mk (l' := #[true, false, true, true, true, true, true, false, false, false]) rfl rfl rfl ?_
     (first | (refine ST.sm (sm_makeMap2 false 5 810 811 rfl (by first | rfl | simp [S.clean, S.put, S.newObj, S.forget, V.has, V.hasL, junkIf, setL, V.cs, hasL_i, hasL_vd, hasL_vdt, hasL_d, hasL_b, hasL_s, hasL_n, hasL_rep, hasL_flat, hasL_append, -List.map_set]) rfl rfl rfl) ?_) | (refine ST.sm (sm_makeMap 811 rfl (by first | rfl | simp [S.clean, S.put, S.newObj, S.forget, V.has, V.hasL, junkIf, setL, V.cs, hasL_i, hasL_vd, hasL_vdt, hasL_d, hasL_b, hasL_s, hasL_n, hasL_rep, hasL_flat, hasL_append, -List.map_set]) rfl) ?_))
     try simp only [S.put, List.map_cons, List.map_nil, rowMap, to2_d, to2_ref, to2_own, to2_junk, to2_F, to2_T, List.getElem_toArray, List.getElem_cons_zero, List.getElem_cons_succ, List.set_cons_zero, List.set_cons_succ, Bool.not_true, Bool.not_false, if_true, if_false, Bool.false_eq_true, ↓reduceIte]
     refine AN.br1 (i := 1) (by kernel_rfl) ?_
     refine BR.mk (l' := #[true, true, true, true, true, true, true, false, false, false]) rfl rfl rfl ?_
     (first | (refine ST.rd rfl (rd_load_ref Tryd.underlying112 rfl rfl rfl rfl rfl rfl) ?_) | (refine ST.rd rfl (rd_load_ad Tryd.underlying112 rfl rfl rfl rfl) ?_) | (refine ST.rd rfl (rd_load_map Tryd.underlying112 rfl rfl rfl rfl rfl rfl (by assumption)) ?_) | (refine ST.rd rfl (rd_load_flat Tryd.underlying112 rfl rfl rfl rfl rfl rfl (fun _ => rfl) (by assumption) rfl) ?_))
     (first | (refine AN.rp (i := 7) (l' := #[true, true, true, true, true, true, true, true, false, false]) rfl rfl rfl (fun _ _ h => h) (by kernel_rfl) rfl (rp_nilCheck rfl rfl) ?_) | (refine AN.rp (i := 7) (l' := #[true, true, true, true, true, true, true, true, false, false]) rfl rfl rfl (fun _ _ h => h) (by kernel_rfl) rfl (rp_nilCheck_ad rfl rfl) ?_))
     (first | (refine AN.rp (i := 8) (l' := #[true, true, true, true, true, true, true, true, true, false]) rfl rfl rfl (fun _ _ h => h) (by kernel_rfl) rfl (rp_field_ref Tryd.underlying128 rfl rfl rfl inf126 (by decide) rfl) ?_) | (refine AN.rp (i := 8) (l' := #[true, true, true, true, true, true, true, true, true, false]) rfl rfl rfl (fun _ _ h => h) (by kernel_rfl) rfl (rp_field_ad Tryd.underlying128 rfl rfl rfl inf126 (by decide) rfl) ?_))
     refine AN.br1 (i := 9) (by kernel_rfl) ?_
     refine BR.mk (l' := #[true, true, true, true, true, true, true, true, true, true]) rfl rfl rfl ?_
     (first | (refine ST.st (st_store_map2 inf126 rfl rfl rfl rfl rfl rfl rfl rfl (by first | assumption | omega)) ?_) | (refine ST.st (st_store inf126 rfl rfl rfl rfl rfl rfl rfl (by first | decide | (simp; done)) rfl) ?_))
     refine AN.nil (by kernel_rfl) ?_
     show Less _ _
     (try simp only [S.put, S.newObj, setL, V.cs, List.length_cons, List.length_nil, List.take_succ_cons, List.take_zero, List.drop_succ_cons, List.drop_zero, List.drop_nil, List.nil_append, List.cons_append, List.append_nil, Nat.zero_add, Nat.reduceAdd, List.map_cons, List.map_nil, List.set_cons_zero, List.set_cons_succ])
     try simp only [S.dd, ddL, List.contains_cons, List.contains_nil, Nat.reduceBEq, beq_self_eq_true, Bool.or_false, Bool.or_true, Bool.false_or, Bool.true_or, Bool.or_self, if_true, if_false, Bool.false_eq_true, ↓reduceIte]
     exact (Less.of rfl (by repeat (first | exact trivial | refine ⟨⟨_, rfl, Wk.refl _⟩, ?_⟩)) (by repeat (first | exact trivial | refine ⟨rfl, ?_⟩)) rfl)
  ·refine BR.mk (l' := #[false, true, true, false, false, false, false, false, false, false]) rfl rfl rfl ?_
   (first | (refine ST.rd rfl (rd_load_ref Tryd.underlying112 rfl rfl rfl rfl rfl rfl) ?_) | (refine ST.rd rfl (rd_load_ad Tryd.underlying112 rfl rfl rfl rfl) ?_) | (refine ST.rd rfl (rd_load_map Tryd.underlying112 rfl rfl rfl rfl rfl rfl (by assumption)) ?_) | (refine ST.rd rfl (rd_load_flat Tryd.underlying112 rfl rfl rfl rfl rfl rfl (fun _ => rfl) (by assumption) rfl) ?_))
   refine AN.br2 (i := 0) (j := 3) (by kernel_rfl) ?_ ?_
   ·refine BR.mk (l' := #[true, true, true, false, false, false, false, false, false, false]) rfl rfl rfl ?_
    (first | (refine ST.rd rfl (rd_load_ref Tryd.underlying112 rfl rfl rfl rfl rfl rfl) ?_) | (refine ST.rd rfl (rd_load_ad Tryd.underlying112 rfl rfl rfl rfl) ?_) | (refine ST.rd rfl (rd_load_map Tryd.underlying112 rfl rfl rfl rfl rfl rfl (by assumption)) ?_) | (refine ST.rd rfl (rd_load_flat Tryd.underlying112 rfl rfl rfl rfl rfl rfl (fun _ => rfl) (by assumption) rfl) ?_))
    (first | (refine AN.rp (i := 4) (l' := #[true, true, true, false, true, false, false, false, false, false]) rfl rfl rfl (fun _ _ h => h) (by kernel_rfl) rfl (rp_nilCheck rfl rfl) ?_) | (refine AN.rp (i := 4) (l' := #[true, true, true, false, true, false, false, false, false, false]) rfl rfl rfl (fun _ _ h => h) (by kernel_rfl) rfl (rp_nilCheck_ad rfl rfl) ?_))
    (first | (refine AN.rp (i := 5) (l' := #[true, true, true, false, true, true, false, false, false, false]) rfl rfl rfl (fun _ _ h => h) (by kernel_rfl) rfl (rp_field_ref Tryd.underlying128 rfl rfl rfl inf125 (by decide) rfl) ?_) | (refine AN.rp (i := 5) (l' := #[true, true, true, false, true, true, false, false, false, false]) rfl rfl rfl (fun _ _ h => h) (by kernel_rfl) rfl (rp_field_ad Tryd.underlying128 rfl rfl rfl inf125 (by decide) rfl) ?_))
    refine AN.br2 (i := 3) (j := 6) (by kernel_rfl) ?_ ?_
    ·refine BR.mk (l' := #[true, true, true, true, true, true, false, false, false, false]) rfl rfl rfl ?_
     (first | (refine ST.sm (sm_makeMap2 false 5 810 811 rfl (by first | rfl | simp [S.clean, S.put, S.newObj, S.forget, V.has, V.hasL, junkIf, setL, V.cs, hasL_i, hasL_vd, hasL_vdt, hasL_d, hasL_b, hasL_s, hasL_n, hasL_rep, hasL_flat, hasL_append, -List.map_set]) rfl rfl rfl) ?_) | (refine ST.sm (sm_makeMap 811 rfl (by first | rfl | simp [S.clean, S.put, S.newObj, S.forget, V.has, V.hasL, junkIf, setL, V.cs, hasL_i, hasL_vd, hasL_vdt, hasL_d, hasL_b, hasL_s, hasL_n, hasL_rep, hasL_flat, hasL_append, -List.map_set]) rfl) ?_))
     try simp only [S.put, List.map_cons, List.map_nil, rowMap, to2_d, to2_ref, to2_own, to2_junk, to2_F, to2_T, List.getElem_toArray, List.getElem_cons_zero, List.getElem_cons_succ, List.set_cons_zero, List.set_cons_succ, Bool.not_true, Bool.not_false, if_true, if_false, Bool.false_eq_true, ↓reduceIte]
     refine AN.br1 (i := 6) (by kernel_rfl) ?_
     refine BR.mk (l' := #[true, true, true, true, true, true, true, false, false, false]) rfl rfl rfl ?_
     (first | (refine ST.st (st_store_map2 inf125 rfl rfl rfl rfl rfl rfl rfl rfl (by first | assumption | omega)) ?_) | (refine ST.st (st_store inf125 rfl rfl rfl rfl rfl rfl rfl (by first | decide | (simp; done)) rfl) ?_))
     (first | (refine AN.rp (i := 7) (l' := #[true, true, true, true, true, true, true, true, false, false]) rfl rfl rfl (fun _ _ h => h) (by kernel_rfl) rfl (rp_nilCheck rfl rfl) ?_) | (refine AN.rp (i := 7) (l' := #[true, true, true, true, true, true, true, true, false, false]) rfl rfl rfl (fun _ _ h => h) (by kernel_rfl) rfl (rp_nilCheck_ad rfl rfl) ?_))
     (first | (refine AN.rp (i := 8) (l' := #[true, true, true, true, true, true, true, true, true, false]) rfl rfl rfl (fun _ _ h => h) (by kernel_rfl) rfl (rp_field_ref Tryd.underlying128 rfl rfl rfl inf126 (by decide) rfl) ?_) | (refine AN.rp (i := 8) (l' := #[true, true, true, true, true, true, true, true, true, false]) rfl rfl rfl (fun _ _ h => h) (by kernel_rfl) rfl (rp_field_ad Tryd.underlying128 rfl rfl rfl inf126 (by decide) rfl) ?_))
     refine AN.br1 (i := 9) (by kernel_rfl) ?_
     refine BR.mk (l' := #[true, true, true, true, true, true, true, true, true, true]) rfl rfl rfl ?_
     (first | (refine ST.st (st_store_map2 inf126 rfl rfl rfl rfl rfl rfl rfl rfl (by first | assumption | omega)) ?_) | (refine ST.st (st_store inf126 rfl rfl rfl rfl rfl rfl rfl (by first | decide | (simp; done)) rfl) ?_))
     refine AN.nil (by kernel_rfl) ?_
     show Less _ _
     (try simp only [S.put, S.newObj, setL, V.cs, List.length_cons, List.length_nil, List.take_succ_cons, List.take_zero, List.drop_succ_cons, List.drop_zero, List.drop_nil, List.nil_append, List.cons_append, List.append_nil, Nat.zero_add, Nat.reduceAdd, List.map_cons, List.map_nil, List.set_cons_zero, List.set_cons_succ])
     try simp only [S.dd, ddL, List.contains_cons, List.contains_nil, Nat.reduceBEq, beq_self_eq_true, Bool.or_false, Bool.or_true, Bool.false_or, Bool.true_or, Bool.or_self, if_true, if_false, Bool.false_eq_true, ↓reduceIte]
     exact (Less.of rfl (by repeat (first | exact trivial | refine ⟨⟨_, rfl, Wk.refl _⟩, ?_⟩)) (by repeat (first | exact trivial | refine ⟨rfl, ?_⟩)) rfl)
    ·refine BR.mk (l' := #[true, true, true, false, true, true, true, false, false, false]) rfl rfl rfl ?_
     (first | (refine ST.st (st_store_map2 inf125 rfl rfl rfl rfl rfl rfl rfl rfl (by first | assumption | omega)) ?_) | (refine ST.st (st_store inf125 rfl rfl rfl rfl rfl rfl rfl (by first | decide | (simp; done)) rfl) ?_))
     refine AN.br1 (i := 3) (by kernel_rfl) ?_
     refine BR.mk (l' := #[true, true, true, true, true, true, true, false, false, false]) rfl rfl rfl ?_
     (first | (refine ST.sm (sm_makeMap2 false 5 810 811 rfl (by first | rfl | simp [S.clean, S.put, S.newObj, S.forget, V.has, V.hasL, junkIf, setL, V.cs, hasL_i, hasL_vd, hasL_vdt, hasL_d, hasL_b, hasL_s, hasL_n, hasL_rep, hasL_flat, hasL_append, -List.map_set]) rfl rfl rfl) ?_) | (refine ST.sm (sm_makeMap 811 rfl (by first | rfl | simp [S.clean, S.put, S.newObj, S.forget, V.has, V.hasL, junkIf, setL, V.cs, hasL_i, hasL_vd, hasL_vdt, hasL_d, hasL_b, hasL_s, hasL_n, hasL_rep, hasL_flat, hasL_append, -List.map_set]) rfl) ?_))
     try simp only [S.put, List.map_cons, List.map_nil, rowMap, to2_d, to2_ref, to2_own, to2_junk, to2_F, to2_T, List.getElem_toArray, List.getElem_cons_zero, List.getElem_cons_succ, List.set_cons_zero, List.set_cons_succ, Bool.not_true, Bool.not_false, if_true, if_false, Bool.false_eq_true, ↓reduceIte]
     (first | (refine AN.rp (i := 7) (l' := #[true, true, true, true, true, true, true, true, false, false]) rfl rfl rfl (fun _ _ h => h) (by kernel_rfl) rfl (rp_nilCheck rfl rfl) ?_) | (refine AN.rp (i := 7) (l' := #[true, true, true, true, true, true, true, true, false, false]) rfl rfl rfl (fun _ _ h => h) (by kernel_rfl) rfl (rp_nilCheck_ad rfl rfl) ?_))
     (first | (refine AN.rp (i := 8) (l' := #[true, true, true, true, true, true, true, true, true, false]) rfl rfl rfl (fun _ _ h => h) (by kernel_rfl) rfl (rp_field_ref Tryd.underlying128 rfl rfl rfl inf126 (by decide) rfl) ?_) | (refine AN.rp (i := 8) (l' := #[true, true, true, true, true, true, true, true, true, false]) rfl rfl rfl (fun _ _ h => h) (by kernel_rfl) rfl (rp_field_ad Tryd.underlying128 rfl rfl rfl inf126 (by decide) rfl) ?_))
     refine AN.br1 (i := 9) (by kernel_rfl) ?_
     refine BR.mk (l' := #[true, true, true, true, true, true, true, true, true, true]) rfl rfl rfl ?_
     (first | (refine ST.st (st_store_map2 inf126 rfl rfl rfl rfl rfl rfl rfl rfl (by first | assumption | omega)) ?_) | (refine ST.st (st_store inf126 rfl rfl rfl rfl rfl rfl rfl (by first | decide | (simp; done)) rfl) ?_))
     refine AN.nil (by kernel_rfl) ?_
     show Less _ _
     (try simp only [S.put, S.newObj, setL, V.cs, List.length_cons, List.length_nil, List.take_succ_cons, List.take_zero, List.drop_succ_cons, List.drop_zero, List.drop_nil, List.nil_append, List.cons_append, List.append_nil, Nat.zero_add, Nat.reduceAdd, List.map_cons, List.map_nil, List.set_cons_zero, List.set_cons_succ])
     try simp only [S.dd, ddL, List.contains_cons, List.contains_nil, Nat.reduceBEq, beq_self_eq_true, Bool.or_false, Bool.or_true, Bool.false_or, Bool.true_or, Bool.or_self, if_true, if_false, Bool.false_eq_true, ↓reduceIte]
     exact (Less.of rfl (by repeat (first | exact trivial | refine ⟨⟨_, rfl, Wk.refl _⟩, ?_⟩)) (by repeat (first | exact trivial | refine ⟨rfl, ?_⟩)) rfl)
   ·refine BR.mk (l' := #[false, true, true, true, false, false, false, false, false, false]) rfl rfl rfl ?_
    (first | (refine ST.sm (sm_makeMap2 false 5 810 811 rfl (by first | rfl | simp [S.clean, S.put, S.newObj, S.forget, V.has, V.hasL, junkIf, setL, V.cs, hasL_i, hasL_vd, hasL_vdt, hasL_d, hasL_b, hasL_s, hasL_n, hasL_rep, hasL_flat, hasL_append, -List.map_set]) rfl rfl rfl) ?_) | (refine ST.sm (sm_makeMap 811 rfl (by first | rfl | simp [S.clean, S.put, S.newObj, S.forget, V.has, V.hasL, junkIf, setL, V.cs, hasL_i, hasL_vd, hasL_vdt, hasL_d, hasL_b, hasL_s, hasL_n, hasL_rep, hasL_flat, hasL_append, -List.map_set]) rfl) ?_))
    try simp only [S.put, List.map_cons, List.map_nil, rowMap, to2_d, to2_ref, to2_own, to2_junk, to2_F, to2_T, List.getElem_toArray, List.getElem_cons_zero, List.getElem_cons_succ, List.set_cons_zero, List.set_cons_succ, Bool.not_true, Bool.not_false, if_true, if_false, Bool.false_eq_true, ↓reduceIte]
    refine AN.br1 (i := 0) (by kernel_rfl) ?_
    refine BR.mk (l' := #[true, true, true, true, false, false, false, false, false, false]) rfl rfl rfl ?_
    (first | (refine ST.rd rfl (rd_load_ref Tryd.underlying112 rfl rfl rfl rfl rfl rfl) ?_) | (refine ST.rd rfl (rd_load_ad Tryd.underlying112 rfl rfl rfl rfl) ?_) | (refine ST.rd rfl (rd_load_map Tryd.underlying112 rfl rfl rfl rfl rfl rfl (by assumption)) ?_) | (refine ST.rd rfl (rd_load_flat Tryd.underlying112 rfl rfl rfl rfl rfl rfl (fun _ => rfl) (by assumption) rfl) ?_))
    (first | (refine AN.rp (i := 4) (l' := #[true, true, true, true, true, false, false, false, false, false]) rfl rfl rfl (fun _ _ h => h) (by kernel_rfl) rfl (rp_nilCheck rfl rfl) ?_) | (refine AN.rp (i := 4) (l' := #[true, true, true, true, true, false, false, false, false, false]) rfl rfl rfl (fun _ _ h => h) (by kernel_rfl) rfl (rp_nilCheck_ad rfl rfl) ?_))
    (first | (refine AN.rp (i := 5) (l' := #[true, true, true, true, true, true, false, false, false, false]) rfl rfl rfl (fun _ _ h => h) (by kernel_rfl) rfl (rp_field_ref Tryd.underlying128 rfl rfl rfl inf125 (by decide) rfl) ?_) | (refine AN.rp (i := 5) (l' := #[true, true, true, true, true, true, false, false, false, false]) rfl rfl rfl (fun _ _ h => h) (by kernel_rfl) rfl (rp_field_ad Tryd.underlying128 rfl rfl rfl inf125 (by decide) rfl) ?_))
    refine AN.br1 (i := 6) (by kernel_rfl) ?_
    refine BR.mk (l' := #[true, true, true, true, true, true, true, false, false, false]) rfl rfl rfl ?_
    (first | (refine ST.st (st_store_map2 inf125 rfl rfl rfl rfl rfl rfl rfl rfl (by first | assumption | omega)) ?_) | (refine ST.st (st_store inf125 rfl rfl rfl rfl rfl rfl rfl (by first | decide | (simp; done)) rfl) ?_))
    (first | (refine AN.rp (i := 7) (l' := #[true, true, true, true, true, true, true, true, false, false]) rfl rfl rfl (fun _ _ h => h) (by kernel_rfl) rfl (rp_nilCheck rfl rfl) ?_) | (refine AN.rp (i := 7) (l' := #[true, true, true, true, true, true, true, true, false, false]) rfl rfl rfl (fun _ _ h => h) (by kernel_rfl) rfl (rp_nilCheck_ad rfl rfl) ?_))
    (first | (refine AN.rp (i := 8) (l' := #[true, true, true, true, true, true, true, true, true, false]) rfl rfl rfl (fun _ _ h => h) (by kernel_rfl) rfl (rp_field_ref Tryd.underlying128 rfl rfl rfl inf126 (by decide) rfl) ?_) | (refine AN.rp (i := 8) (l' := #[true, true, true, true, true, true, true, true, true, false]) rfl rfl rfl (fun _ _ h => h) (by kernel_rfl) rfl (rp_field_ad Tryd.underlying128 rfl rfl rfl inf126 (by decide) rfl) ?_))
    refine AN.br1 (i := 9) (by kernel_rfl) ?_
    refine BR.mk (l' := #[true, true, true, true, true, true, true, true, true, true]) rfl rfl rfl ?_
    (first | (refine ST.st (st_store_map2 inf126 rfl rfl rfl rfl rfl rfl rfl rfl (by first | assumption | omega)) ?_) | (refine ST.st (st_store inf126 rfl rfl rfl rfl rfl rfl rfl (by first | decide | (simp; done)) rfl) ?_))
    refine AN.nil (by kernel_rfl) ?_
    show Less _ _
    (try simp only [S.put, S.newObj, setL, V.cs, List.length_cons, List.length_nil, List.take_succ_cons, List.take_zero, List.drop_succ_cons, List.drop_zero, List.drop_nil, List.nil_append, List.cons_append, List.append_nil, Nat.zero_add, Nat.reduceAdd, List.map_cons, List.map_nil, List.set_cons_zero, List.set_cons_succ])
    try simp only [S.dd, ddL, List.contains_cons, List.contains_nil, Nat.reduceBEq, beq_self_eq_true, Bool.or_false, Bool.or_true, Bool.false_or, Bool.true_or, Bool.or_self, if_true, if_false, Bool.false_eq_true, ↓reduceIte]
    exact (Less.of rfl (by repeat (first | exact trivial | refine ⟨⟨_, rfl, Wk.refl _⟩, ?_⟩)) (by repeat (first | exact trivial | refine ⟨rfl, ?_⟩)) rfl)
  ·refine BR.mk (l' := #[false, false, true, true, false, false, false, false, false, false]) rfl rfl rfl ?_
   (first | (refine ST.sm (sm_makeMap2 false 5 810 811 rfl (by first | rfl | simp [S.clean, S.put, S.newObj, S.forget, V.has, V.hasL, junkIf, setL, V.cs, hasL_i, hasL_vd, hasL_vdt, hasL_d, hasL_b, hasL_s, hasL_n, hasL_rep, hasL_flat, hasL_append, -List.map_set]) rfl rfl rfl) ?_) | (refine ST.sm (sm_makeMap 811 rfl (by first | rfl | simp [S.clean, S.put, S.newObj, S.forget, V.has, V.hasL, junkIf, setL, V.cs, hasL_i, hasL_vd, hasL_vdt, hasL_d, hasL_b, hasL_s, hasL_n, hasL_rep, hasL_flat, hasL_append, -List.map_set]) rfl) ?_))
   try simp only [S.put, List.map_cons, List.map_nil, rowMap, to2_d, to2_ref, to2_own, to2_junk, to2_F, to2_T, List.getElem_toArray, List.getElem_cons_zero, List.getElem_cons_succ, List.set_cons_zero, List.set_cons_succ, Bool.not_true, Bool.not_false, if_true, if_false, Bool.false_eq_true, ↓reduceIte]
   refine AN.br2 (i := 0) (j := 1) (by kernel_rfl) ?_ ?_
   ·refine BR.mk (l' := #[true, false, true, true, false, false, false, false, false, false]) rfl rfl rfl ?_
    (first | (refine ST.rd rfl (rd_load_ref Tryd.underlying112 rfl rfl rfl rfl rfl rfl) ?_) | (refine ST.rd rfl (rd_load_ad Tryd.underlying112 rfl rfl rfl rfl) ?_) | (refine ST.rd rfl (rd_load_map Tryd.underlying112 rfl rfl rfl rfl rfl rfl (by assumption)) ?_) | (refine ST.rd rfl (rd_load_flat Tryd.underlying112 rfl rfl rfl rfl rfl rfl (fun _ => rfl) (by assumption) rfl) ?_))
    (first | (refine AN.rp (i := 4) (l' := #[true, false, true, true, true, false, false, false, false, false]) rfl rfl rfl (fun _ _ h => h) (by kernel_rfl) rfl (rp_nilCheck rfl rfl) ?_) | (refine AN.rp (i := 4) (l' := #[true, false, true, true, true, false, false, false, false, false]) rfl rfl rfl (fun _ _ h => h) (by kernel_rfl) rfl (rp_nilCheck_ad rfl rfl) ?_))
    (first | (refine AN.rp (i := 5) (l' := #[true, false, true, true, true, true, false, false, false, false]) rfl rfl rfl (fun _ _ h => h) (by kernel_rfl) rfl (rp_field_ref Tryd.underlying128 rfl rfl rfl inf125 (by decide) rfl) ?_) | (refine AN.rp (i := 5) (l' := #[true, false, true, true, true, true, false, false, false, false]) rfl rfl rfl (fun _ _ h => h) (by kernel_rfl) rfl (rp_field_ad Tryd.underlying128 rfl rfl rfl inf125 (by decide) rfl) ?_))
    refine AN.br2 (i := 1) (j := 6) (by kernel_rfl) ?_ ?_
    ·refine BR.mk (l' := #[true, true, true, true, true, true, false, false, false, false]) rfl rfl rfl ?_
     (first | (refine ST.rd rfl (rd_load_ref Tryd.underlying112 rfl rfl rfl rfl rfl rfl) ?_) | (refine ST.rd rfl (rd_load_ad Tryd.underlying112 rfl rfl rfl rfl) ?_) | (refine ST.rd rfl (rd_load_map Tryd.underlying112 rfl rfl rfl rfl rfl rfl (by assumption)) ?_) | (refine ST.rd rfl (rd_load_flat Tryd.underlying112 rfl rfl rfl rfl rfl rfl (fun _ => rfl) (by assumption) rfl) ?_))
     refine AN.br1 (i := 6) (by kernel_rfl) ?_
     refine BR.mk (l' := #[true, true, true, true, true, true, true, false, false, false]) rfl rfl rfl ?_
     (first | (refine ST.st (st_store_map2 inf125 rfl rfl rfl rfl rfl rfl rfl rfl (by first | assumption | omega)) ?_) | (refine ST.st (st_store inf125 rfl rfl rfl rfl rfl rfl rfl (by first | decide | (simp; done)) rfl) ?_))
     (first | (refine AN.rp (i := 7) (l' := #[true, true, true, true, true, true, true, true, false, false]) rfl rfl rfl (fun _ _ h => h) (by kernel_rfl) rfl (rp_nilCheck rfl rfl) ?_) | (refine AN.rp (i := 7) (l' := #[true, true, true, true, true, true, true, true, false, false]) rfl rfl rfl (fun _ _ h => h) (by kernel_rfl) rfl (rp_nilCheck_ad rfl rfl) ?_))
     (first | (refine AN.rp (i := 8) (l' := #[true, true, true, true, true, true, true, true, true, false]) rfl rfl rfl (fun _ _ h => h) (by kernel_rfl) rfl (rp_field_ref Tryd.underlying128 rfl rfl rfl inf126 (by decide) rfl) ?_) | (refine AN.rp (i := 8) (l' := #[true, true, true, true, true, true, true, true, true, false]) rfl rfl rfl (fun _ _ h => h) (by kernel_rfl) rfl (rp_field_ad Tryd.underlying128 rfl rfl rfl inf126 (by decide) rfl) ?_))
     refine AN.br1 (i := 9) (by kernel_rfl) ?_
     refine BR.mk (l' := #[true, true, true, true, true, true, true, true, true, true]) rfl rfl rfl ?_
     (first | (refine ST.st (st_store_map2 inf126 rfl rfl rfl rfl rfl rfl rfl rfl (by first | assumption | omega)) ?_) | (refine ST.st (st_store inf126 rfl rfl rfl rfl rfl rfl rfl (by first | decide | (simp; done)) rfl) ?_))
     refine AN.nil (by kernel_rfl) ?_
     show Less _ _
     (try simp only [S.put, S.newObj, setL, V.cs, List.length_cons, List.length_nil, List.take_succ_cons, List.take_zero, List.drop_succ_cons, List.drop_zero, List.drop_nil, List.nil_append, List.cons_append, List.append_nil, Nat.zero_add, Nat.reduceAdd, List.map_cons, List.map_nil, List.set_cons_zero, List.set_cons_succ])
     try simp only [S.dd, ddL, List.contains_cons, List.contains_nil, Nat.reduceBEq, beq_self_eq_true, Bool.or_false, Bool.or_true, Bool.false_or, Bool.true_or, Bool.or_self, if_true, if_false, Bool.false_eq_true, ↓reduceIte]
     exact (Less.of rfl (by repeat (first | exact trivial | refine ⟨⟨_, rfl, Wk.refl _⟩, ?_⟩)) (by repeat (first | exact trivial | refine ⟨rfl, ?_⟩)) rfl)
    ·refine BR.mk (l' := #[true, false, true, true, true, true, true, false, false, false]) rfl rfl rfl ?_
     (first | (refine ST.st (st_store_map2 inf125 rfl rfl rfl rfl rfl rfl rfl rfl (by first | assumption | omega)) ?_) | (refine ST.st (st_store inf125 rfl rfl rfl rfl rfl rfl rfl (by first | decide | (simp; done)) rfl) ?_))
     refine AN.br1 (i := 1) (by kernel_rfl) ?_
     refine BR.mk (l' := #[true, true, true, true, true, true, true, false, false, false]) rfl rfl rfl ?_
     (first | (refine ST.rd rfl (rd_load_ref Tryd.underlying112 rfl rfl rfl rfl rfl rfl) ?_) | (refine ST.rd rfl (rd_load_ad Tryd.underlying112 rfl rfl rfl rfl) ?_) | (refine ST.rd rfl (rd_load_map Tryd.underlying112 rfl rfl rfl rfl rfl rfl (by assumption)) ?_) | (refine ST.rd rfl (rd_load_flat Tryd.underlying112 rfl rfl rfl rfl rfl rfl (fun _ => rfl) (by assumption) rfl) ?_))
     (first | (refine AN.rp (i := 7) (l' := #[true, true, true, true, true, true, true, true, false, false]) rfl rfl rfl (fun _ _ h => h) (by kernel_rfl) rfl (rp_nilCheck rfl rfl) ?_) | (refine AN.rp (i := 7) (l' := #[true, true, true, true, true, true, true, true, false, false]) rfl rfl rfl (fun _ _ h => h) (by kernel_rfl) rfl (rp_nilCheck_ad rfl rfl) ?_))
     (first | (refine AN.rp (i := 8) (l' := #[true, true, true, true, true, true, true, true, true, false]) rfl rfl rfl (fun _ _ h => h) (by kernel_rfl) rfl (rp_field_ref Tryd.underlying128 rfl rfl rfl inf126 (by decide) rfl) ?_) | (refine AN.rp (i := 8) (l' := #[true, true, true, true, true, true, true, true, true, false]) rfl rfl rfl (fun _ _ h => h) (by kernel_rfl) rfl (rp_field_ad Tryd.underlying128 rfl rfl rfl inf126 (by decide) rfl) ?_))
     refine AN.br1 (i := 9) (by kernel_rfl) ?_
     refine BR.mk (l' := #[true, true, true, true, true, true, true, true, true, true]) rfl rfl rfl ?_
     (first | (refine ST.st (st_store_map2 inf126 rfl rfl rfl rfl rfl rfl rfl rfl (by first | assumption | omega)) ?_) | (refine ST.st (st_store inf126 rfl rfl rfl rfl rfl rfl rfl (by first | decide | (simp; done)) rfl) ?_))
     refine AN.nil (by kernel_rfl) ?_
     show Less _ _
     (try simp only [S.put, S.newObj, setL, V.cs, List.length_cons, List.length_nil, List.take_succ_cons, List.take_zero, List.drop_succ_cons, List.drop_zero, List.drop_nil, List.nil_append, List.cons_append, List.append_nil, Nat.zero_add, Nat.reduceAdd, List.map_cons, List.map_nil, List.set_cons_zero, List.set_cons_succ])
     try simp only [S.dd, ddL, List.contains_cons, List.contains_nil, Nat.reduceBEq, beq_self_eq_true, Bool.or_false, Bool.or_true, Bool.false_or, Bool.true_or, Bool.or_self, if_true, if_false, Bool.false_eq_true, ↓reduceIte]
     exact (Less.of rfl (by repeat (first | exact trivial | refine ⟨⟨_, rfl, Wk.refl _⟩, ?_⟩)) (by repeat (first | exact trivial | refine ⟨rfl, ?_⟩)) rfl)
   ·refine BR.mk (l' := #[false, true, true, true, false, false, false, false, false, false]) rfl rfl rfl ?_
    (first | (refine ST.rd rfl (rd_load_ref Tryd.underlying112 rfl rfl rfl rfl rfl rfl) ?_) | (refine ST.rd rfl (rd_load_ad Tryd.underlying112 rfl rfl rfl rfl) ?_) | (refine ST.rd rfl (rd_load_map Tryd.underlying112 rfl rfl rfl rfl rfl rfl (by assumption)) ?_) | (refine ST.rd rfl (rd_load_flat Tryd.underlying112 rfl rfl rfl rfl rfl rfl (fun _ => rfl) (by assumption) rfl) ?_))
    refine AN.br1 (i := 0) (by kernel_rfl) ?_
    refine BR.mk (l' := #[true, true, true, true, false, false, false, false, false, false]) rfl rfl rfl ?_
    (first | (refine ST.rd rfl (rd_load_ref Tryd.underlying112 rfl rfl rfl rfl rfl rfl) ?_) | (refine ST.rd rfl (rd_load_ad Tryd.underlying112 rfl rfl rfl rfl) ?_) | (refine ST.rd rfl (rd_load_map Tryd.underlying112 rfl rfl rfl rfl rfl rfl (by assumption)) ?_) | (refine ST.rd rfl (rd_load_flat Tryd.underlying112 rfl rfl rfl rfl rfl rfl (fun _ => rfl) (by assumption) rfl) ?_))
    (first | (refine AN.rp (i := 4) (l' := #[true, true, true, true, true, false, false, false, false, false]) rfl rfl rfl (fun _ _ h => h) (by kernel_rfl) rfl (rp_nilCheck rfl rfl) ?_) | (refine AN.rp (i := 4) (l' := #[true, true, true, true, true, false, false, false, false, false]) rfl rfl rfl (fun _ _ h => h) (by kernel_rfl) rfl (rp_nilCheck_ad rfl rfl) ?_))
    (first | (refine AN.rp (i := 5) (l' := #[true, true, true, true, true, true, false, false, false, false]) rfl rfl rfl (fun _ _ h => h) (by kernel_rfl) rfl (rp_field_ref Tryd.underlying128 rfl rfl rfl inf125 (by decide) rfl) ?_) | (refine AN.rp (i := 5) (l' := #[true, true, true, true, true, true, false, false, false, false]) rfl rfl rfl (fun _ _ h => h) (by kernel_rfl) rfl (rp_field_ad Tryd.underlying128 rfl rfl rfl inf125 (by decide) rfl) ?_))
    refine AN.br1 (i := 6) (by kernel_rfl) ?_
    refine BR.mk (l' := #[true, true, true, true, true, true, true, false, false, false]) rfl rfl rfl ?_
    (first | (refine ST.st (st_store_map2 inf125 rfl rfl rfl rfl rfl rfl rfl rfl (by first | assumption | omega)) ?_) | (refine ST.st (st_store inf125 rfl rfl rfl rfl rfl rfl rfl (by first | decide | (simp; done)) rfl) ?_))
    (first | (refine AN.rp (i := 7) (l' := #[true, true, true, true, true, true, true, true, false, false]) rfl rfl rfl (fun _ _ h => h) (by kernel_rfl) rfl (rp_nilCheck rfl rfl) ?_) | (refine AN.rp (i := 7) (l' := #[true, true, true, true, true, true, true, true, false, false]) rfl rfl rfl (fun _ _ h => h) (by kernel_rfl) rfl (rp_nilCheck_ad rfl rfl) ?_))
    (first | (refine AN.rp (i := 8) (l' := #[true, true, true, true, true, true, true, true, true, false]) rfl rfl rfl (fun _ _ h => h) (by kernel_rfl) rfl (rp_field_ref Tryd.underlying128 rfl rfl rfl inf126 (by decide) rfl) ?_) | (refine AN.rp (i := 8) (l' := #[true, true, true, true, true, true, true, true, true, false]) rfl rfl rfl (fun _ _ h => h) (by kernel_rfl) rfl (rp_field_ad Tryd.underlying128 rfl rfl rfl inf126 (by decide) rfl) ?_))
    refine AN.br1 (i := 9) (by kernel_rfl) ?_
    refine BR.mk (l' := #[true, true, true, true, true, true, true, true, true, true]) rfl rfl rfl ?_
    (first | (refine ST.st (st_store_map2 inf126 rfl rfl rfl rfl rfl rfl rfl rfl (by first | assumption | omega)) ?_) | (refine ST.st (st_store inf126 rfl rfl rfl rfl rfl rfl rfl (by first | decide | (simp; done)) rfl) ?_))
    refine AN.nil (by kernel_rfl) ?_
    show Less _ _
    (try simp only [S.put, S.newObj, setL, V.cs, List.length_cons, List.length_nil, List.take_succ_cons, List.take_zero, List.drop_succ_cons, List.drop_zero, List.drop_nil, List.nil_append, List.cons_append, List.append_nil, Nat.zero_add, Nat.reduceAdd, List.map_cons, List.map_nil, List.set_cons_zero, List.set_cons_succ])
    try simp only [S.dd, ddL, List.contains_cons, List.contains_nil, Nat.reduceBEq, beq_self_eq_true, Bool.or_false, Bool.or_true, Bool.false_or, Bool.true_or, Bool.or_self, if_true, if_false, Bool.false_eq_true, ↓reduceIte]
    exact (Less.of rfl (by repeat (first | exact trivial | refine ⟨⟨_, rfl, Wk.refl _⟩, ?_⟩)) (by repeat (first | exact trivial | refine ⟨rfl, ?_⟩)) rfl)
 ·refine BR.mk (l' := #[false, false, false, true, false, false, false, false, false, false]) rfl rfl rfl ?_
  (first | (refine ST.sm (sm_makeMap2 false 5 810 811 rfl (by first | rfl | simp [S.clean, S.put, S.newObj, S.forget, V.has, V.hasL, junkIf, setL, V.cs, hasL_i, hasL_vd, hasL_vdt, hasL_d, hasL_b, hasL_s, hasL_n, hasL_rep, hasL_flat, hasL_append, -List.map_set]) rfl rfl rfl) ?_) | (refine ST.sm (sm_makeMap 811 rfl (by first | rfl | simp [S.clean, S.put, S.newObj, S.forget, V.has, V.hasL, junkIf, setL, V.cs, hasL_i, hasL_vd, hasL_vdt, hasL_d, hasL_b, hasL_s, hasL_n, hasL_rep, hasL_flat, hasL_append, -List.map_set]) rfl) ?_))
  try simp only [S.put, List.map_cons, List.map_nil, rowMap, to2_d, to2_ref, to2_own, to2_junk, to2_F, to2_T, List.getElem_toArray, List.getElem_cons_zero, List.getElem_cons_succ, List.set_cons_zero, List.set_cons_succ, Bool.not_true, Bool.not_false, if_true, if_false, Bool.false_eq_true, ↓reduceIte]
  refine AN.br3 (i := 0) (j := 1) (k := 2) (by kernel_rfl) ?_ ?_ ?_
  ·refine BR.mk (l' := #[true, false, false, true, false, false, false, false, false, false]) rfl rfl rfl ?_
   (first | (refine ST.rd rfl (rd_load_ref Tryd.underlying112 rfl rfl rfl rfl rfl rfl) ?_) | (refine ST.rd rfl (rd_load_ad Tryd.underlying112 rfl rfl rfl rfl) ?_) | (refine ST.rd rfl (rd_load_map Tryd.underlying112 rfl rfl rfl rfl rfl rfl (by assumption)) ?_) | (refine ST.rd rfl (rd_load_flat Tryd.underlying112 rfl rfl rfl rfl rfl rfl (fun _ => rfl) (by assumption) rfl) ?_))
   refine AN.br2 (i := 1) (j := 2) (by kernel_rfl) ?_ ?_
   ·refine BR.mk (l' := #[true, true, false, true, false, false, false, false, false, false]) rfl rfl rfl ?_
    (first | (refine ST.rd rfl (rd_load_ref Tryd.underlying112 rfl rfl rfl rfl rfl rfl) ?_) | (refine ST.rd rfl (rd_load_ad Tryd.underlying112 rfl rfl rfl rfl) ?_) | (refine ST.rd rfl (rd_load_map Tryd.underlying112 rfl rfl rfl rfl rfl rfl (by assumption)) ?_) | (refine ST.rd rfl (rd_load_flat Tryd.underlying112 rfl rfl rfl rfl rfl rfl (fun _ => rfl) (by assumption) rfl) ?_))
    refine AN.br1 (i := 2) (by kernel_rfl) ?_
    refine BR.mk (l' := #[true, true, true, true, false, false, false, false, false, false]) rfl rfl rfl ?_
    (first | (refine ST.sm (sm_makeMap2 true 6 810 811 rfl (by first | rfl | simp [S.clean, S.put, S.newObj, S.forget, V.has, V.hasL, junkIf, setL, V.cs, hasL_i, hasL_vd, hasL_vdt, hasL_d, hasL_b, hasL_s, hasL_n, hasL_rep, hasL_flat, hasL_append, -List.map_set]) rfl rfl rfl) ?_) | (refine ST.sm (sm_makeMap 810 rfl (by first | rfl | simp [S.clean, S.put, S.newObj, S.forget, V.has, V.hasL, junkIf, setL, V.cs, hasL_i, hasL_vd, hasL_vdt, hasL_d, hasL_b, hasL_s, hasL_n, hasL_rep, hasL_flat, hasL_append, -List.map_set]) rfl) ?_))
    try simp only [S.put, List.map_cons, List.map_nil, rowMap, to2_d, to2_ref, to2_own, to2_junk, to2_F, to2_T, List.getElem_toArray, List.getElem_cons_zero, List.getElem_cons_succ, List.set_cons_zero, List.set_cons_succ, Bool.not_true, Bool.not_false, if_true, if_false, Bool.false_eq_true, ↓reduceIte]
    (first | (refine AN.rp (i := 4) (l' := #[true, true, true, true, true, false, false, false, false, false]) rfl rfl rfl (fun _ _ h => h) (by kernel_rfl) rfl (rp_nilCheck rfl rfl) ?_) | (refine AN.rp (i := 4) (l' := #[true, true, true, true, true, false, false, false, false, false]) rfl rfl rfl (fun _ _ h => h) (by kernel_rfl) rfl (rp_nilCheck_ad rfl rfl) ?_))
    (first | (refine AN.rp (i := 5) (l' := #[true, true, true, true, true, true, false, false, false, false]) rfl rfl rfl (fun _ _ h => h) (by kernel_rfl) rfl (rp_field_ref Tryd.underlying128 rfl rfl rfl inf125 (by decide) rfl) ?_) | (refine AN.rp (i := 5) (l' := #[true, true, true, true, true, true, false, false, false, false]) rfl rfl rfl (fun _ _ h => h) (by kernel_rfl) rfl (rp_field_ad Tryd.underlying128 rfl rfl rfl inf125 (by decide) rfl) ?_))
    refine AN.br1 (i := 6) (by kernel_rfl) ?_
    refine BR.mk (l' := #[true, true, true, true, true, true, true, false, false, false]) rfl rfl rfl ?_
    (first | (refine ST.st (st_store_map2 inf125 rfl rfl rfl rfl rfl rfl rfl rfl (by first | assumption | omega)) ?_) | (refine ST.st (st_store inf125 rfl rfl rfl rfl rfl rfl rfl (by first | decide | (simp; done)) rfl) ?_))
    (first | (refine AN.rp (i := 7) (l' := #[true, true, true, true, true, true, true, true, false, false]) rfl rfl rfl (fun _ _ h => h) (by kernel_rfl) rfl (rp_nilCheck rfl rfl) ?_) | (refine AN.rp (i := 7) (l' := #[true, true, true, true, true, true, true, true, false, false]) rfl rfl rfl (fun _ _ h => h) (by kernel_rfl) rfl (rp_nilCheck_ad rfl rfl) ?_))
    (first | (refine AN.rp (i := 8) (l' := #[true, true, true, true, true, true, true, true, true, false]) rfl rfl rfl (fun _ _ h => h) (by kernel_rfl) rfl (rp_field_ref Tryd.underlying128 rfl rfl rfl inf126 (by decide) rfl) ?_) | (refine AN.rp (i := 8) (l' := #[true, true, true, true, true, true, true, true, true, false]) rfl rfl rfl (fun _ _ h => h) (by kernel_rfl) rfl (rp_field_ad Tryd.underlying128 rfl rfl rfl inf126 (by decide) rfl) ?_))
    refine AN.br1 (i := 9) (by kernel_rfl) ?_
    refine BR.mk (l' := #[true, true, true, true, true, true, true, true, true, true]) rfl rfl rfl ?_
    (first | (refine ST.st (st_store_map2 inf126 rfl rfl rfl rfl rfl rfl rfl rfl (by first | assumption | omega)) ?_) | (refine ST.st (st_store inf126 rfl rfl rfl rfl rfl rfl rfl (by first | decide | (simp; done)) rfl) ?_))
    refine AN.nil (by kernel_rfl) ?_
    show Less _ _
    (try simp only [S.put, S.newObj, setL, V.cs, List.length_cons, List.length_nil, List.take_succ_cons, List.take_zero, List.drop_succ_cons, List.drop_zero, List.drop_nil, List.nil_append, List.cons_append, List.append_nil, Nat.zero_add, Nat.reduceAdd, List.map_cons, List.map_nil, List.set_cons_zero, List.set_cons_succ])
    try simp only [S.dd, ddL, List.contains_cons, List.contains_nil, Nat.reduceBEq, beq_self_eq_true, Bool.or_false, Bool.or_true, Bool.false_or, Bool.true_or, Bool.or_self, if_true, if_false, Bool.false_eq_true, ↓reduceIte]
    exact (Less.of rfl (by repeat (first | exact trivial | refine ⟨⟨_, rfl, Wk.refl _⟩, ?_⟩)) (by repeat (first | exact trivial | refine ⟨rfl, ?_⟩)) rfl)
   ·refine BR.mk (l' := #[true, false, true, true, false, false, false, false, false, false]) rfl rfl rfl ?_
    (first | (refine ST.sm (sm_makeMap2 true 6 810 811 rfl (by first | rfl | simp [S.clean, S.put, S.newObj, S.forget, V.has, V.hasL, junkIf, setL, V.cs, hasL_i, hasL_vd, hasL_vdt, hasL_d, hasL_b, hasL_s, hasL_n, hasL_rep, hasL_flat, hasL_append, -List.map_set]) rfl rfl rfl) ?_) | (refine ST.sm (sm_makeMap 810 rfl (by first | rfl | simp [S.clean, S.put, S.newObj, S.forget, V.has, V.hasL, junkIf, setL, V.cs, hasL_i, hasL_vd, hasL_vdt, hasL_d, hasL_b, hasL_s, hasL_n, hasL_rep, hasL_flat, hasL_append, -List.map_set]) rfl) ?_))
    try simp only [S.put, List.map_cons, List.map_nil, rowMap, to2_d, to2_ref, to2_own, to2_junk, to2_F, to2_T, List.getElem_toArray, List.getElem_cons_zero, List.getElem_cons_succ, List.set_cons_zero, List.set_cons_succ, Bool.not_true, Bool.not_false, if_true, if_false, Bool.false_eq_true, ↓reduceIte]
    (first | (refine AN.rp (i := 4) (l' := #[true, false, true, true, true, false, false, false, false, false]) rfl rfl rfl (fun _ _ h => h) (by kernel_rfl) rfl (rp_nilCheck rfl rfl) ?_) | (refine AN.rp (i := 4) (l' := #[true, false, true, true, true, false, false, false, false, false]) rfl rfl rfl (fun _ _ h => h) (by kernel_rfl) rfl (rp_nilCheck_ad rfl rfl) ?_))
    (first | (refine AN.rp (i := 5) (l' := #[true, false, true, true, true, true, false, false, false, false]) rfl rfl rfl (fun _ _ h => h) (by kernel_rfl) rfl (rp_field_ref Tryd.underlying128 rfl rfl rfl inf125 (by decide) rfl) ?_) | (refine AN.rp (i := 5) (l' := #[true, false, true, true, true, true, false, false, false, false]) rfl rfl rfl (fun _ _ h => h) (by kernel_rfl) rfl (rp_field_ad Tryd.underlying128 rfl rfl rfl inf125 (by decide) rfl) ?_))
    refine AN.br2 (i := 1) (j := 6) (by kernel_rfl) ?_ ?_
    ·refine BR.mk (l' := #[true, true, true, true, true, true, false, false, false, false]) rfl rfl rfl ?_
     (first | (refine ST.rd rfl (rd_load_ref Tryd.underlying112 rfl rfl rfl rfl rfl rfl) ?_) | (refine ST.rd rfl (rd_load_ad Tryd.underlying112 rfl rfl rfl rfl) ?_) | (refine ST.rd rfl (rd_load_map Tryd.underlying112 rfl rfl rfl rfl rfl rfl (by assumption)) ?_) | (refine ST.rd rfl (rd_load_flat Tryd.underlying112 rfl rfl rfl rfl rfl rfl (fun _ => rfl) (by assumption) rfl) ?_))
     refine AN.br1 (i := 6) (by kernel_rfl) ?_
     refine BR.mk (l' := #[true, true, true, true, true, true, true, false, false, false]) rfl rfl rfl ?_
     (first | (refine ST.st (st_store_map2 inf125 rfl rfl rfl rfl rfl rfl rfl rfl (by first | assumption | omega)) ?_) | (refine ST.st (st_store inf125 rfl rfl rfl rfl rfl rfl rfl (by first | decide | (simp; done)) rfl) ?_))
     (first | (refine AN.rp (i := 7) (l' := #[true, true, true, true, true, true, true, true, false, false]) rfl rfl rfl (fun _ _ h => h) (by kernel_rfl) rfl (rp_nilCheck rfl rfl) ?_) | (refine AN.rp (i := 7) (l' := #[true, true, true, true, true, true, true, true, false, false]) rfl rfl rfl (fun _ _ h => h) (by kernel_rfl) rfl (rp_nilCheck_ad rfl rfl) ?_))
     (first | (refine AN.rp (i := 8) (l' := #[true, true, true, true, true, true, true, true, true, false]) rfl rfl rfl (fun _ _ h => h) (by kernel_rfl) rfl (rp_field_ref Tryd.underlying128 rfl rfl rfl inf126 (by decide) rfl) ?_) | (refine AN.rp (i := 8) (l' := #[true, true, true, true, true, true, true, true, true, false]) rfl rfl rfl (fun _ _ h => h) (by kernel_rfl) rfl (rp_field_ad Tryd.underlying128 rfl rfl rfl inf126 (by decide) rfl) ?_))
     refine AN.br1 (i := 9) (by kernel_rfl) ?_
     refine BR.mk (l' := #[true, true, true, true, true, true, true, true, true, true]) rfl rfl rfl ?_
     (first | (refine ST.st (st_store_map2 inf126 rfl rfl rfl rfl rfl rfl rfl rfl (by first | assumption | omega)) ?_) | (refine ST.st (st_store inf126 rfl rfl rfl rfl rfl rfl rfl (by first | decide | (simp; done)) rfl) ?_))
     refine AN.nil (by kernel_rfl) ?_
     show Less _ _
     (try simp only [S.put, S.newObj, setL, V.cs, List.length_cons, List.length_nil, List.take_succ_cons, List.take_zero, List.drop_succ_cons, List.drop_zero, List.drop_nil, List.nil_append, List.cons_append, List.append_nil, Nat.zero_add, Nat.reduceAdd, List.map_cons, List.map_nil, List.set_cons_zero, List.set_cons_succ])
     try simp only [S.dd, ddL, List.contains_cons, List.contains_nil, Nat.reduceBEq, beq_self_eq_true, Bool.or_false, Bool.or_true, Bool.false_or, Bool.true_or, Bool.or_self, if_true, if_false, Bool.false_eq_true, ↓reduceIte]
     exact (Less.of rfl (by repeat (first | exact trivial | refine ⟨⟨_, rfl, Wk.refl _⟩, ?_⟩)) (by repeat (first | exact trivial | refine ⟨rfl, ?_⟩)) rfl)
    ·refine BR.mk (l' := #[true, false, true, true, true, true, true, false, false, false]) rfl rfl rfl ?_
     (first | (refine ST.st (st_store_map2 inf125 rfl rfl rfl rfl rfl rfl rfl rfl (by first | assumption | omega)) ?_) | (refine ST.st (st_store inf125 rfl rfl rfl rfl rfl rfl rfl (by first | decide | (simp; done)) rfl) ?_))
     refine AN.br1 (i := 1) (by kernel_rfl) ?_
     refine BR.mk (l' := #[true, true, true, true, true, true, true, false, false, false]) rfl rfl rfl ?_
     (first | (refine ST.rd rfl (rd_load_ref Tryd.underlying112 rfl rfl rfl rfl rfl rfl) ?_) | (refine ST.rd rfl (rd_load_ad Tryd.underlying112 rfl rfl rfl rfl) ?_) | (refine ST.rd rfl (rd_load_map Tryd.underlying112 rfl rfl rfl rfl rfl rfl (by assumption)) ?_) | (refine ST.rd rfl (rd_load_flat Tryd.underlying112 rfl rfl rfl rfl rfl rfl (fun _ => rfl) (by assumption) rfl) ?_))
     (first | (refine AN.rp (i := 7) (l' := #[true, true, true, true, true, true, true, true, false, false]) rfl rfl rfl (fun _ _ h => h) (by kernel_rfl) rfl (rp_nilCheck rfl rfl) ?_) | (refine AN.rp (i := 7) (l' := #[true, true, true, true, true, true, true, true, false, false]) rfl rfl rfl (fun _ _ h => h) (by kernel_rfl) rfl (rp_nilCheck_ad rfl rfl) ?_))
     (first | (refine AN.rp (i := 8) (l' := #[true, true, true, true, true, true, true, true, true, false]) rfl rfl rfl (fun _ _ h => h) (by kernel_rfl) rfl (rp_field_ref Tryd.underlying128 rfl rfl rfl inf126 (by decide) rfl) ?_) | (refine AN.rp (i := 8) (l' := #[true, true, true, true, true, true, true, true, true, false]) rfl rfl rfl (fun _ _ h => h) (by kernel_rfl) rfl (rp_field_ad Tryd.underlying128 rfl rfl rfl inf126 (by decide) rfl) ?_))
     refine AN.br1 (i := 9) (by kernel_rfl) ?_
     refine BR.mk (l' := #[true, true, true, true, true, true, true, true, true, true]) rfl rfl rfl ?_
     (first | (refine ST.st (st_store_map2 inf126 rfl rfl rfl rfl rfl rfl rfl rfl (by first | assumption | omega)) ?_) | (refine ST.st (st_store inf126 rfl rfl rfl rfl rfl rfl rfl (by first | decide | (simp; done)) rfl) ?_))
     refine AN.nil (by kernel_rfl) ?_
     show Less _ _
     (try simp only [S.put, S.newObj, setL, V.cs, List.length_cons, List.length_nil, List.take_succ_cons, List.take_zero, List.drop_succ_cons, List.drop_zero, List.drop_nil, List.nil_append, List.cons_append, List.append_nil, Nat.zero_add, Nat.reduceAdd, List.map_cons, List.map_nil, List.set_cons_zero, List.set_cons_succ])
     try simp only [S.dd, ddL, List.contains_cons, List.contains_nil, Nat.reduceBEq, beq_self_eq_true, Bool.or_false, Bool.or_true, Bool.false_or, Bool.true_or, Bool.or_self, if_true, if_false, Bool.false_eq_true, ↓reduceIte]
     exact (Less.of rfl (by repeat (first | exact trivial | refine ⟨⟨_, rfl, Wk.refl _⟩, ?_⟩)) (by repeat (first | exact trivial | refine ⟨rfl, ?_⟩)) rfl)
  ·refine BR.mk (l' := #[false, true, false, true, false, false, false, false, false, false]) rfl rfl rfl ?_
   (first | (refine ST.rd rfl (rd_load_ref Tryd.underlying112 rfl rfl rfl rfl rfl rfl) ?_) | (refine ST.rd rfl (rd_load_ad Tryd.underlying112 rfl rfl rfl rfl) ?_) | (refine ST.rd rfl (rd_load_map Tryd.underlying112 rfl rfl rfl rfl rfl rfl (by assumption)) ?_) | (refine ST.rd rfl (rd_load_flat Tryd.underlying112 rfl rfl rfl rfl rfl rfl (fun _ => rfl) (by assumption) rfl) ?_))
   refine AN.br2 (i := 0) (j := 2) (by kernel_rfl) ?_ ?_
   ·refine BR.mk (l' := #[true, true, false, true, false, false, false, false, false, false]) rfl rfl rfl ?_
    (first | (refine ST.rd rfl (rd_load_ref Tryd.underlying112 rfl rfl rfl rfl rfl rfl) ?_) | (refine ST.rd rfl (rd_load_ad Tryd.underlying112 rfl rfl rfl rfl) ?_) | (refine ST.rd rfl (rd_load_map Tryd.underlying112 rfl rfl rfl rfl rfl rfl (by assumption)) ?_) | (refine ST.rd rfl (rd_load_flat Tryd.underlying112 rfl rfl rfl rfl rfl rfl (fun _ => rfl) (by assumption) rfl) ?_))
    refine AN.br1 (i := 2) (by kernel_rfl) ?_
    refine BR.mk (l' := #[true, true, true, true, false, false, false, false, false, false]) rfl rfl rfl ?_
    (first | (refine ST.sm (sm_makeMap2 true 6 810 811 rfl (by first | rfl | simp [S.clean, S.put, S.newObj, S.forget, V.has, V.hasL, junkIf, setL, V.cs, hasL_i, hasL_vd, hasL_vdt, hasL_d, hasL_b, hasL_s, hasL_n, hasL_rep, hasL_flat, hasL_append, -List.map_set]) rfl rfl rfl) ?_) | (refine ST.sm (sm_makeMap 810 rfl (by first | rfl | simp [S.clean, S.put, S.newObj, S.forget, V.has, V.hasL, junkIf, setL, V.cs, hasL_i, hasL_vd, hasL_vdt, hasL_d, hasL_b, hasL_s, hasL_n, hasL_rep, hasL_flat, hasL_append, -List.map_set]) rfl) ?_))
    try simp only [S.put, List.map_cons, List.map_nil, rowMap, to2_d, to2_ref, to2_own, to2_junk, to2_F, to2_T, List.getElem_toArray, List.getElem_cons_zero, List.getElem_cons_succ, List.set_cons_zero, List.set_cons_succ, Bool.not_true, Bool.not_false, if_true, if_false, Bool.false_eq_true, ↓reduceIte]
    (first | (refine AN.rp (i := 4) (l' := #[true, true, true, true, true, false, false, false, false, false]) rfl rfl rfl (fun _ _ h => h) (by kernel_rfl) rfl (rp_nilCheck rfl rfl) ?_) | (refine AN.rp (i := 4) (l' := #[true, true, true, true, true, false, false, false, false, false]) rfl rfl rfl (fun _ _ h => h) (by kernel_rfl) rfl (rp_nilCheck_ad rfl rfl) ?_))
    (first | (refine AN.rp (i := 5) (l' := #[true, true, true, true, true, true, false, false, false, false]) rfl rfl rfl (fun _ _ h => h) (by kernel_rfl) rfl (rp_field_ref Tryd.underlying128 rfl rfl rfl inf125 (by decide) rfl) ?_) | (refine AN.rp (i := 5) (l' := #[true, true, true, true, true, true, false, false, false, false]) rfl rfl rfl (fun _ _ h => h) (by kernel_rfl) rfl (rp_field_ad Tryd.underlying128 rfl rfl rfl inf125 (by decide) rfl) ?_))
    refine AN.br1 (i := 6) (by kernel_rfl) ?_
    refine BR.mk (l' := #[true, true, true, true, true, true, true, false, false, false]) rfl rfl rfl ?_
    (first | (refine ST.st (st_store_map2 inf125 rfl rfl rfl rfl rfl rfl rfl rfl (by first | assumption | omega)) ?_) | (refine ST.st (st_store inf125 rfl rfl rfl rfl rfl rfl rfl (by first | decide | (simp; done)) rfl) ?_))
    (first | (refine AN.rp (i := 7) (l' := #[true, true, true, true, true, true, true, true, false, false]) rfl rfl rfl (fun _ _ h => h) (by kernel_rfl) rfl (rp_nilCheck rfl rfl) ?_) | (refine AN.rp (i := 7) (l' := #[true, true, true, true, true, true, true, true, false, false]) rfl rfl rfl (fun _ _ h => h) (by kernel_rfl) rfl (rp_nilCheck_ad rfl rfl) ?_))
    (first | (refine AN.rp (i := 8) (l' := #[true, true, true, true, true, true, true, true, true, false]) rfl rfl rfl (fun _ _ h => h) (by kernel_rfl) rfl (rp_field_ref Tryd.underlying128 rfl rfl rfl inf126 (by decide) rfl) ?_) | (refine AN.rp (i := 8) (l' := #[true, true, true, true, true, true, true, true, true, false]) rfl rfl rfl (fun _ _ h => h) (by kernel_rfl) rfl (rp_field_ad Tryd.underlying128 rfl rfl rfl inf126 (by decide) rfl) ?_))
    refine AN.br1 (i := 9) (by kernel_rfl) ?_
    refine BR.mk (l' := #[true, true, true, true, true, true, true, true, true, true]) rfl rfl rfl ?_
    (first | (refine ST.st (st_store_map2 inf126 rfl rfl rfl rfl rfl rfl rfl rfl (by first | assumption | omega)) ?_) | (refine ST.st (st_store inf126 rfl rfl rfl rfl rfl rfl rfl (by first | decide | (simp; done)) rfl) ?_))
    refine AN.nil (by kernel_rfl) ?_
    show Less _ _
    (try simp only [S.put, S.newObj, setL, V.cs, List.length_cons, List.length_nil, List.take_succ_cons, List.take_zero, List.drop_succ_cons, List.drop_zero, List.drop_nil, List.nil_append, List.cons_append, List.append_nil, Nat.zero_add, Nat.reduceAdd, List.map_cons, List.map_nil, List.set_cons_zero, List.set_cons_succ])
    try simp only [S.dd, ddL, List.contains_cons, List.contains_nil, Nat.reduceBEq, beq_self_eq_true, Bool.or_false, Bool.or_true, Bool.false_or, Bool.true_or, Bool.or_self, if_true, if_false, Bool.false_eq_true, ↓reduceIte]
    exact (Less.of rfl (by repeat (first | exact trivial | refine ⟨⟨_, rfl, Wk.refl _⟩, ?_⟩)) (by repeat (first | exact trivial | refine ⟨rfl, ?_⟩)) rfl)
   ·refine BR.mk (l' := #[false, true, true, true, false, false, false, false, false, false]) rfl rfl rfl ?_
    (first | (refine ST.sm (sm_makeMap2 true 6 810 811 rfl (by first | rfl | simp [S.clean, S.put, S.newObj, S.forget, V.has, V.hasL, junkIf, setL, V.cs, hasL_i, hasL_vd, hasL_vdt, hasL_d, hasL_b, hasL_s, hasL_n, hasL_rep, hasL_flat, hasL_append, -List.map_set]) rfl rfl rfl) ?_) | (refine ST.sm (sm_makeMap 810 rfl (by first | rfl | simp [S.clean, S.put, S.newObj, S.forget, V.has, V.hasL, junkIf, setL, V.cs, hasL_i, hasL_vd, hasL_vdt, hasL_d, hasL_b, hasL_s, hasL_n, hasL_rep, hasL_flat, hasL_append, -List.map_set]) rfl) ?_))
    try simp only [S.put, List.map_cons, List.map_nil, rowMap, to2_d, to2_ref, to2_own, to2_junk, to2_F, to2_T, List.getElem_toArray, List.getElem_cons_zero, List.getElem_cons_succ, List.set_cons_zero, List.set_cons_succ, Bool.not_true, Bool.not_false, if_true, if_false, Bool.false_eq_true, ↓reduceIte]
    refine AN.br1 (i := 0) (by kernel_rfl) ?_
    refine BR.mk (l' := #[true, true, true, true, false, false, false, false, false, false]) rfl rfl rfl ?_
    (first | (refine ST.rd rfl (rd_load_ref Tryd.underlying112 rfl rfl rfl rfl rfl rfl) ?_) | (refine ST.rd rfl (rd_load_ad Tryd.underlying112 rfl rfl rfl rfl) ?_) | (refine ST.rd rfl (rd_load_map Tryd.underlying112 rfl rfl rfl rfl rfl rfl (by assumption)) ?_) | (refine ST.rd rfl (rd_load_flat Tryd.underlying112 rfl rfl rfl rfl rfl rfl (fun _ => rfl) (by assumption) rfl) ?_))
    (first | (refine AN.rp (i := 4) (l' := #[true, true, true, true, true, false, false, false, false, false]) rfl rfl rfl (fun _ _ h => h) (by kernel_rfl) rfl (rp_nilCheck rfl rfl) ?_) | (refine AN.rp (i := 4) (l' := #[true, true, true, true, true, false, false, false, false, false]) rfl rfl rfl (fun _ _ h => h) (by kernel_rfl) rfl (rp_nilCheck_ad rfl rfl) ?_))
    (first | (refine AN.rp (i := 5) (l' := #[true, true, true, true, true, true, false, false, false, false]) rfl rfl rfl (fun _ _ h => h) (by kernel_rfl) rfl (rp_field_ref Tryd.underlying128 rfl rfl rfl inf125 (by decide) rfl) ?_) | (refine AN.rp (i := 5) (l' := #[true, true, true, true, true, true, false, false, false, false]) rfl rfl rfl (fun _ _ h => h) (by kernel_rfl) rfl (rp_field_ad Tryd.underlying128 rfl rfl rfl inf125 (by decide) rfl) ?_))
    refine AN.br1 (i := 6) (by kernel_rfl) ?_
    refine BR.mk (l' := #[true, true, true, true, true, true, true, false, false, false]) rfl rfl rfl ?_
    (first | (refine ST.st (st_store_map2 inf125 rfl rfl rfl rfl rfl rfl rfl rfl (by first | assumption | omega)) ?_) | (refine ST.st (st_store inf125 rfl rfl rfl rfl rfl rfl rfl (by first | decide | (simp; done)) rfl) ?_))
    (first | (refine AN.rp (i := 7) (l' := #[true, true, true, true, true, true, true, true, false, false]) rfl rfl rfl (fun _ _ h => h) (by kernel_rfl) rfl (rp_nilCheck rfl rfl) ?_) | (refine AN.rp (i := 7) (l' := #[true, true, true, true, true, true, true, true, false, false]) rfl rfl rfl (fun _ _ h => h) (by kernel_rfl) rfl (rp_nilCheck_ad rfl rfl) ?_))
    (first | (refine AN.rp (i := 8) (l' := #[true, true, true, true, true, true, true, true, true, false]) rfl rfl rfl (fun _ _ h => h) (by kernel_rfl) rfl (rp_field_ref Tryd.underlying128 rfl rfl rfl inf126 (by decide) rfl) ?_) | (refine AN.rp (i := 8) (l' := #[true, true, true, true, true, true, true, true, true, false]) rfl rfl rfl (fun _ _ h => h) (by kernel_rfl) rfl (rp_field_ad Tryd.underlying128 rfl rfl rfl inf126 (by decide) rfl) ?_))
    refine AN.br1 (i := 9) (by kernel_rfl) ?_
    refine BR.mk (l' := #[true, true, true, true, true, true, true, true, true, true]) rfl rfl rfl ?_
    (first | (refine ST.st (st_store_map2 inf126 rfl rfl rfl rfl rfl rfl rfl rfl (by first | assumption | omega)) ?_) | (refine ST.st (st_store inf126 rfl rfl rfl rfl rfl rfl rfl (by first | decide | (simp; done)) rfl) ?_))
    refine AN.nil (by kernel_rfl) ?_
    show Less _ _
    (try simp only [S.put, S.newObj, setL, V.cs, List.length_cons, List.length_nil, List.take_succ_cons, List.take_zero, List.drop_succ_cons, List.drop_zero, List.drop_nil, List.nil_append, List.cons_append, List.append_nil, Nat.zero_add, Nat.reduceAdd, List.map_cons, List.map_nil, List.set_cons_zero, List.set_cons_succ])
    try simp only [S.dd, ddL, List.contains_cons, List.contains_nil, Nat.reduceBEq, beq_self_eq_true, Bool.or_false, Bool.or_true, Bool.false_or, Bool.true_or, Bool.or_self, if_true, if_false, Bool.false_eq_true, ↓reduceIte]
    exact (Less.of rfl (by repeat (first | exact trivial | refine ⟨⟨_, rfl, Wk.refl _⟩, ?_⟩)) (by repeat (first | exact trivial | refine ⟨rfl, ?_⟩)) rfl)
  ·refine BR.mk (l' := #[false, false, true, true, false, false, false, false, false, false]) rfl rfl rfl ?_
   (first | (refine ST.sm (sm_makeMap2 true 6 810 811 rfl (by first | rfl | simp [S.clean, S.put, S.newObj, S.forget, V.has, V.hasL, junkIf, setL, V.cs, hasL_i, hasL_vd, hasL_vdt, hasL_d, hasL_b, hasL_s, hasL_n, hasL_rep, hasL_flat, hasL_append, -List.map_set]) rfl rfl rfl) ?_) | (refine ST.sm (sm_makeMap 810 rfl (by first | rfl | simp [S.clean, S.put, S.newObj, S.forget, V.has, V.hasL, junkIf, setL, V.cs, hasL_i, hasL_vd, hasL_vdt, hasL_d, hasL_b, hasL_s, hasL_n, hasL_rep, hasL_flat, hasL_append, -List.map_set]) rfl) ?_))
   try simp only [S.put, List.map_cons, List.map_nil, rowMap, to2_d, to2_ref, to2_own, to2_junk, to2_F, to2_T, List.getElem_toArray, List.getElem_cons_zero, List.getElem_cons_succ, List.set_cons_zero, List.set_cons_succ, Bool.not_true, Bool.not_false, if_true, if_false, Bool.false_eq_true, ↓reduceIte]
   refine AN.br2 (i := 0) (j := 1) (by kernel_rfl) ?_ ?_
   ·refine BR.mk (l' := #[true, false, true, true, false, false, false, false, false, false]) rfl rfl rfl ?_
    (first | (refine ST.rd rfl (rd_load_ref Tryd.underlying112 rfl rfl rfl rfl rfl rfl) ?_) | (refine ST.rd rfl (rd_load_ad Tryd.underlying112 rfl rfl rfl rfl) ?_) | (refine ST.rd rfl (rd_load_map Tryd.underlying112 rfl rfl rfl rfl rfl rfl (by assumption)) ?_) | (refine ST.rd rfl (rd_load_flat Tryd.underlying112 rfl rfl rfl rfl rfl rfl (fun _ => rfl) (by assumption) rfl) ?_))
    (first | (refine AN.rp (i := 4) (l' := #[true, false, true, true, true, false, false, false, false, false]) rfl rfl rfl (fun _ _ h => h) (by kernel_rfl) rfl (rp_nilCheck rfl rfl) ?_) | (refine AN.rp (i := 4) (l' := #[true, false, true, true, true, false, false, false, false, false]) rfl rfl rfl (fun _ _ h => h) (by kernel_rfl) rfl (rp_nilCheck_ad rfl rfl) ?_))
    (first | (refine AN.rp (i := 5) (l' := #[true, false, true, true, true, true, false, false, false, false]) rfl rfl rfl (fun _ _ h => h) (by kernel_rfl) rfl (rp_field_ref Tryd.underlying128 rfl rfl rfl inf125 (by decide) rfl) ?_) | (refine AN.rp (i := 5) (l' := #[true, false, true, true, true, true, false, false, false, false]) rfl rfl rfl (fun _ _ h => h) (by kernel_rfl) rfl (rp_field_ad Tryd.underlying128 rfl rfl rfl inf125 (by decide) rfl) ?_))
    refine AN.br2 (i := 1) (j := 6) (by kernel_rfl) ?_ ?_
    ·refine BR.mk (l' := #[true, true, true, true, true, true, false, false, false, false]) rfl rfl rfl ?_
     (first | (refine ST.rd rfl (rd_load_ref Tryd.underlying112 rfl rfl rfl rfl rfl rfl) ?_) | (refine ST.rd rfl (rd_load_ad Tryd.underlying112 rfl rfl rfl rfl) ?_) | (refine ST.rd rfl (rd_load_map Tryd.underlying112 rfl rfl rfl rfl rfl rfl (by assumption)) ?_) | (refine ST.rd rfl (rd_load_flat Tryd.underlying112 rfl rfl rfl rfl rfl rfl (fun _ => rfl) (by assumption) rfl) ?_))
     refine AN.br1 (i := 6) (by kernel_rfl) ?_
     refine BR.mk (l' := #[true, true, true, true, true, true, true, false, false, false]) rfl rfl rfl ?_
     (first | (refine ST.st (st_store_map2 inf125 rfl rfl rfl rfl rfl rfl rfl rfl (by first | assumption | omega)) ?_) | (refine ST.st (st_store inf125 rfl rfl rfl rfl rfl rfl rfl (by first | decide | (simp; done)) rfl) ?_))
     (first | (refine AN.rp (i := 7) (l' := #[true, true, true, true, true, true, true, true, false, false]) rfl rfl rfl (fun _ _ h => h) (by kernel_rfl) rfl (rp_nilCheck rfl rfl) ?_) | (refine AN.rp (i := 7) (l' := #[true, true, true, true, true, true, true, true, false, false]) rfl rfl rfl (fun _ _ h => h) (by kernel_rfl) rfl (rp_nilCheck_ad rfl rfl) ?_))
     (first | (refine AN.rp (i := 8) (l' := #[true, true, true, true, true, true, true, true, true, false]) rfl rfl rfl (fun _ _ h => h) (by kernel_rfl) rfl (rp_field_ref Tryd.underlying128 rfl rfl rfl inf126 (by decide) rfl) ?_) | (refine AN.rp (i := 8) (l' := #[true, true, true, true, true, true, true, true, true, false]) rfl rfl rfl (fun _ _ h => h) (by kernel_rfl) rfl (rp_field_ad Tryd.underlying128 rfl rfl rfl inf126 (by decide) rfl) ?_))
     refine AN.br1 (i := 9) (by kernel_rfl) ?_
     refine BR.mk (l' := #[true, true, true, true, true, true, true, true, true, true]) rfl rfl rfl ?_
     (first | (refine ST.st (st_store_map2 inf126 rfl rfl rfl rfl rfl rfl rfl rfl (by first | assumption | omega)) ?_) | (refine ST.st (st_store inf126 rfl rfl rfl rfl rfl rfl rfl (by first | decide | (simp; done)) rfl) ?_))
     refine AN.nil (by kernel_rfl) ?_
     show Less _ _
     (try simp only [S.put, S.newObj, setL, V.cs, List.length_cons, List.length_nil, List.take_succ_cons, List.take_zero, List.drop_succ_cons, List.drop_zero, List.drop_nil, List.nil_append, List.cons_append, List.append_nil, Nat.zero_add, Nat.reduceAdd, List.map_cons, List.map_nil, List.set_cons_zero, List.set_cons_succ])
     try simp only [S.dd, ddL, List.contains_cons, List.contains_nil, Nat.reduceBEq, beq_self_eq_true, Bool.or_false, Bool.or_true, Bool.false_or, Bool.true_or, Bool.or_self, if_true, if_false, Bool.false_eq_true, ↓reduceIte]
     exact (Less.of rfl (by repeat (first | exact trivial | refine ⟨⟨_, rfl, Wk.refl _⟩, ?_⟩)) (by repeat (first | exact trivial | refine ⟨rfl, ?_⟩)) rfl)
    ·refine BR.mk (l' := #[true, false, true, true, true, true, true, false, false, false]) rfl rfl rfl ?_
     (first | (refine ST.st (st_store_map2 inf125 rfl rfl rfl rfl rfl rfl rfl rfl (by first | assumption | omega)) ?_) | (refine ST.st (st_store inf125 rfl rfl rfl rfl rfl rfl rfl (by first | decide | (simp; done)) rfl) ?_))
     refine AN.br1 (i := 1) (by kernel_rfl) ?_
     refine BR.mk (l' := #[true, true, true, true, true, true, true, false, false, false]) rfl rfl rfl ?_
     (first | (refine ST.rd rfl (rd_load_ref Tryd.underlying112 rfl rfl rfl rfl rfl rfl) ?_) | (refine ST.rd rfl (rd_load_ad Tryd.underlying112 rfl rfl rfl rfl) ?_) | (refine ST.rd rfl (rd_load_map Tryd.underlying112 rfl rfl rfl rfl rfl rfl (by assumption)) ?_) | (refine ST.rd rfl (rd_load_flat Tryd.underlying112 rfl rfl rfl rfl rfl rfl (fun _ => rfl) (by assumption) rfl) ?_))
     (first | (refine AN.rp (i := 7) (l' := #[true, true, true, true, true, true, true, true, false, false]) rfl rfl rfl (fun _ _ h => h) (by kernel_rfl) rfl (rp_nilCheck rfl rfl) ?_) | (refine AN.rp (i := 7) (l' := #[true, true, true, true, true, true, true, true, false, false]) rfl rfl rfl (fun _ _ h => h) (by kernel_rfl) rfl (rp_nilCheck_ad rfl rfl) ?_))
     (first | (refine AN.rp (i := 8) (l' := #[true, true, true, true, true, true, true, true, true, false]) rfl rfl rfl (fun _ _ h => h) (by kernel_rfl) rfl (rp_field_ref Tryd.underlying128 rfl rfl rfl inf126 (by decide) rfl) ?_) | (refine AN.rp (i := 8) (l' := #[true, true, true, true, true, true, true, true, true, false]) rfl rfl rfl (fun _ _ h => h) (by kernel_rfl) rfl (rp_field_ad Tryd.underlying128 rfl rfl rfl inf126 (by decide) rfl) ?_))
     refine AN.br1 (i := 9) (by kernel_rfl) ?_
     refine BR.mk (l' := #[true, true, true, true, true, true, true, true, true, true]) rfl rfl rfl ?_
     (first | (refine ST.st (st_store_map2 inf126 rfl rfl rfl rfl rfl rfl rfl rfl (by first | assumption | omega)) ?_) | (refine ST.st (st_store inf126 rfl rfl rfl rfl rfl rfl rfl (by first | decide | (simp; done)) rfl) ?_))
     refine AN.nil (by kernel_rfl) ?_
     show Less _ _
     (try simp only [S.put, S.newObj, setL, V.cs, List.length_cons, List.length_nil, List.take_succ_cons, List.take_zero, List.drop_succ_cons, List.drop_zero, List.drop_nil, List.nil_append, List.cons_append, List.append_nil, Nat.zero_add, Nat.reduceAdd, List.map_cons, List.map_nil, List.set_cons_zero, List.set_cons_succ])
     try simp only [S.dd, ddL, List.contains_cons, List.contains_nil, Nat.reduceBEq, beq_self_eq_true, Bool.or_false, Bool.or_true, Bool.false_or, Bool.true_or, Bool.or_self, if_true, if_false, Bool.false_eq_true, ↓reduceIte]
     exact (Less.of rfl (by repeat (first | exact trivial | refine ⟨⟨_, rfl, Wk.refl _⟩, ?_⟩)) (by repeat (first | exact trivial | refine ⟨rfl, ?_⟩)) rfl)
   ·refine BR.mk (l' := #[false, true, true, true, false, false, false, false, false, false]) rfl rfl rfl ?_
    (first | (refine ST.rd rfl (rd_load_ref Tryd.underlying112 rfl rfl rfl rfl rfl rfl) ?_) | (refine ST.rd rfl (rd_load_ad Tryd.underlying112 rfl rfl rfl rfl) ?_) | (refine ST.rd rfl (rd_load_map Tryd.underlying112 rfl rfl rfl rfl rfl rfl (by assumption)) ?_) | (refine ST.rd rfl (rd_load_flat Tryd.underlying112 rfl rfl rfl rfl rfl rfl (fun _ => rfl) (by assumption) rfl) ?_))
    refine AN.br1 (i := 0) (by kernel_rfl) ?_
    refine BR.mk (l' := #[true, true, true, true, false, false, false, false, false, false]) rfl rfl rfl ?_
    (first | (refine ST.rd rfl (rd_load_ref Tryd.underlying112 rfl rfl rfl rfl rfl rfl) ?_) | (refine ST.rd rfl (rd_load_ad Tryd.underlying112 rfl rfl rfl rfl) ?_) | (refine ST.rd rfl (rd_load_map Tryd.underlying112 rfl rfl rfl rfl rfl rfl (by assumption)) ?_) | (refine ST.rd rfl (rd_load_flat Tryd.underlying112 rfl rfl rfl rfl rfl rfl (fun _ => rfl) (by assumption) rfl) ?_))
    (first | (refine AN.rp (i := 4) (l' := #[true, true, true, true, true, false, false, false, false, false]) rfl rfl rfl (fun _ _ h => h) (by kernel_rfl) rfl (rp_nilCheck rfl rfl) ?_) | (refine AN.rp (i := 4) (l' := #[true, true, true, true, true, false, false, false, false, false]) rfl rfl rfl (fun _ _ h => h) (by kernel_rfl) rfl (rp_nilCheck_ad rfl rfl) ?_))
    (first | (refine AN.rp (i := 5) (l' := #[true, true, true, true, true, true, false, false, false, false]) rfl rfl rfl (fun _ _ h => h) (by kernel_rfl) rfl (rp_field_ref Tryd.underlying128 rfl rfl rfl inf125 (by decide) rfl) ?_) | (refine AN.rp (i := 5) (l' := #[true, true, true, true, true, true, false, false, false, false]) rfl rfl rfl (fun _ _ h => h) (by kernel_rfl) rfl (rp_field_ad Tryd.underlying128 rfl rfl rfl inf125 (by decide) rfl) ?_))
    refine AN.br1 (i := 6) (by kernel_rfl) ?_
    refine BR.mk (l' := #[true, true, true, true, true, true, true, false, false, false]) rfl rfl rfl ?_
    (first | (refine ST.st (st_store_map2 inf125 rfl rfl rfl rfl rfl rfl rfl rfl (by first | assumption | omega)) ?_) | (refine ST.st (st_store inf125 rfl rfl rfl rfl rfl rfl rfl (by first | decide | (simp; done)) rfl) ?_))
    (first | (refine AN.rp (i := 7) (l' := #[true, true, true, true, true, true, true, true, false, false]) rfl rfl rfl (fun _ _ h => h) (by kernel_rfl) rfl (rp_nilCheck rfl rfl) ?_) | (refine AN.rp (i := 7) (l' := #[true, true, true, true, true, true, true, true, false, false]) rfl rfl rfl (fun _ _ h => h) (by kernel_rfl) rfl (rp_nilCheck_ad rfl rfl) ?_))
    (first | (refine AN.rp (i := 8) (l' := #[true, true, true, true, true, true, true, true, true, false]) rfl rfl rfl (fun _ _ h => h) (by kernel_rfl) rfl (rp_field_ref Tryd.underlying128 rfl rfl rfl inf126 (by decide) rfl) ?_) | (refine AN.rp (i := 8) (l' := #[true, true, true, true, true, true, true, true, true, false]) rfl rfl rfl (fun _ _ h => h) (by kernel_rfl) rfl (rp_field_ad Tryd.underlying128 rfl rfl rfl inf126 (by decide) rfl) ?_))
    refine AN.br1 (i := 9) (by kernel_rfl) ?_
    refine BR.mk (l' := #[true, true, true, true, true, true, true, true, true, true]) rfl rfl rfl ?_
    (first | (refine ST.st (st_store_map2 inf126 rfl rfl rfl rfl rfl rfl rfl rfl (by first | assumption | omega)) ?_) | (refine ST.st (st_store inf126 rfl rfl rfl rfl rfl rfl rfl (by first | decide | (simp; done)) rfl) ?_))
    refine AN.nil (by kernel_rfl) ?_
    show Less _ _
    (try simp only [S.put, S.newObj, setL, V.cs, List.length_cons, List.length_nil, List.take_succ_cons, List.take_zero, List.drop_succ_cons, List.drop_zero, List.drop_nil, List.nil_append, List.cons_append, List.append_nil, Nat.zero_add, Nat.reduceAdd, List.map_cons, List.map_nil, List.set_cons_zero, List.set_cons_succ])
    try simp only [S.dd, ddL, List.contains_cons, List.contains_nil, Nat.reduceBEq, beq_self_eq_true, Bool.or_false, Bool.or_true, Bool.false_or, Bool.true_or, Bool.or_self, if_true, if_false, Bool.false_eq_true, ↓reduceIte]
    exact (Less.of rfl (by repeat (first | exact trivial | refine ⟨⟨_, rfl, Wk.refl _⟩, ?_⟩)) (by repeat (first | exact trivial | refine ⟨rfl, ?_⟩)) rfl)
 (try simp only [S.put, S.newObj, setL, V.cs, List.length_cons, List.length_nil, List.take_succ_cons, List.take_zero, List.drop_succ_cons, List.drop_zero, List.drop_nil, List.nil_append, List.cons_append, List.append_nil, Nat.zero_add, Nat.reduceAdd, List.map_cons, List.map_nil, List.set_cons_zero, List.set_cons_succ])
 try simp only [S.dd, ddL, List.contains_cons, List.contains_nil, Nat.reduceBEq, beq_self_eq_true, Bool.or_false, Bool.or_true, Bool.false_or, Bool.true_or, Bool.or_self, if_true, if_false, Bool.false_eq_true, ↓reduceIte]
 try simp only [thenS, S.put, S.newObj, setL, V.cs, List.length_cons, List.length_nil, List.take_succ_cons, List.take_zero, List.drop_succ_cons, List.drop_zero, List.drop_nil, List.nil_append, List.cons_append, List.append_nil, Nat.zero_add, Nat.reduceAdd, List.map_cons, List.map_nil, List.set_cons_zero, List.set_cons_succ, enum]
 refine AW.seq ?_
 refine AW.region ?_
 (first | (refine AL.rd rfl rfl (rd_load_ref Tryd.underlying112 rfl rfl rfl rfl rfl rfl) ?_) | (refine AL.rd rfl rfl (rd_load_ad Tryd.underlying112 rfl rfl rfl rfl) ?_) | (refine AL.rd rfl rfl (rd_load_map Tryd.underlying112 rfl rfl rfl rfl rfl rfl (by assumption)) ?_) | (refine AL.rd rfl rfl (rd_load_flat Tryd.underlying112 rfl rfl rfl rfl rfl rfl (fun _ => rfl) (by assumption) rfl) ?_))
 (first | (refine AL.rp rfl rfl (rp_nilCheck rfl rfl) ?_) | (refine AL.rp rfl rfl (rp_nilCheck_ad rfl rfl) ?_))
 (first | (refine AL.rp rfl rfl (rp_field_ref Tryd.underlying128 rfl rfl rfl inf22 (by decide) rfl) ?_) | (refine AL.rp rfl rfl (rp_field_ad Tryd.underlying128 rfl rfl rfl inf22 (by decide) rfl) ?_))
 (first | (refine AL.rd rfl rfl (rd_load_ref Tryd.underlying22 rfl rfl rfl rfl rfl rfl) ?_) | (refine AL.rd rfl rfl (rd_load_ad Tryd.underlying22 rfl rfl rfl rfl) ?_) | (refine AL.rd rfl rfl (rd_load_map Tryd.underlying22 rfl rfl rfl rfl rfl rfl (by assumption)) ?_) | (refine AL.rd rfl rfl (rd_load_flat Tryd.underlying22 rfl rfl rfl rfl rfl rfl (fun _ => rfl) (by assumption) rfl) ?_))
 (first | (refine AL.rp rfl rfl (rp_len_map Tryd.underlying22 rfl rfl (by assumption)) ?_) | (refine AL.rp rfl rfl (rp_len_own Tryd.underlying22 rfl rfl) ?_) | (refine AL.rp rfl rfl (rp_len_sl Tryd.underlying22 rfl rfl) ?_) | (refine AL.rp rfl rfl (rp_len_nil Tryd.underlying22 rfl rfl) ?_) | (refine AL.rp rfl rfl (rp_len_str Tryd.underlying22 rfl rfl) ?_))
 refine AL.rp rfl rfl (rp_move rfl rfl) ?_
 refine AL.nil ?_
 try simp only [thenS, S.put]
 refine AW.block ?_
 refine AW.loop (fun s' => ∃ k : Nat, k ≤ len ∧ s' = ⟨36, [(0, .ref 801 0), (14, .d (nmsD l)), (15, .i len), (16, .i k)], [(801, ⟨112, [.ref 800 0], false, 0⟩), (800, ⟨128, [.d (.sl 2 24 (l.map nmD)), .d (.p (.int .u32 0)), .d (.p (.int .i32 1)), .d (.p (.int .u32 0)), .mp2 false 810 811 w0.heap.size (smap (bldM Nm.t l k)) (imap (bldM Nm.b l k)), .mp2 true 810 811 w0.heap.size (smap (bldM Nm.t l k)) (imap (bldM Nm.b l k))], false, 0⟩)], .ref 800 0 :: .ref 801 0 :: ks.map V.d⟩) (fun s' => len - s'.nat 16) ⟨_, ?_, 0, by omega, rfl⟩ ?_
 ·exact (Less.of rfl (by repeat (first | exact trivial | refine ⟨⟨_, rfl, Wk.refl _⟩, ?_⟩ | refine ⟨⟨_, rfl, Wk.nil _ _⟩, ?_⟩ | refine ⟨⟨_, rfl, Wk.junk _⟩, ?_⟩)) (by repeat (first | exact trivial | refine ⟨rfl, ?_⟩)) rfl)
 rintro s' ⟨k, hk, rfl⟩
 by_cases hlt : k < len
 ·obtain ⟨x, hx⟩ := get_lt hl hlt
  refine AW.seq ?_
  refine AW.region ?_
  (first | (refine AL.rp rfl rfl (rp_lssT rfl rfl rfl (by first | assumption | omega | (dsimp only; omega))) ?_) | (refine AL.rp rfl rfl (rp_lssF rfl rfl rfl (by first | assumption | omega | (dsimp only; omega))) ?_) | (refine AL.rp rfl rfl (rp_lss rfl rfl rfl) ?_))
  refine AL.nil ?_
  try simp only [thenS, S.put]
  refine AW.seq ?_
  refine AW.condT rfl ?_
  refine AW.skip ?_
  try simp only [thenS]
  refine AW.seq ?_
  refine AW.block ?_
  refine AW.seq ?_
  refine AW.region ?_
  refine AL.rp rfl rfl (rp_move rfl rfl) ?_
  (first | (refine AL.rp rfl rfl (rp_index_map Tryd.underlying22 inf51 rfl rfl rfl rfl (by assumption)) ?_) | (refine AL.rp rfl rfl (rp_index_own Tryd.underlying22 inf51 rfl rfl rfl rfl (by first | assumption | omega)) ?_) | (refine AL.rp rfl rfl (rd_index_sl Tryd.underlying22 inf51 rfl rfl rfl rfl (by assumption)) ?_) | (refine AL.rp rfl rfl (rp_index_own Tryd.underlying22 inf51 rfl rfl rfl (by omega) (by omega)) ?_))
  (first | (refine AL.rd rfl rfl (rd_loads_ref Tryd.underlying51 rfl inf51 rfl rfl rfl rfl rfl rfl) ?_) | (refine AL.rd rfl rfl (rd_loads_ad Tryd.underlying51 rfl inf51 rfl rfl rfl rfl) ?_))
  refine AL.sm rfl (sm_alloc (l := [.d (.p (.string ⟨#[]⟩)), .d (.p (.int .i64 0))]) 2 inf51 rfl (by first | rfl | simp [S.clean, S.put, S.newObj, S.forget, V.has, V.hasL, junkIf, setL, V.cs, hasL_i, hasL_vd, hasL_vdt, hasL_d, hasL_b, hasL_s, hasL_n, hasL_rep, hasL_flat, hasL_append, -List.map_set]) rfl rfl) ?_
  refine AL.rp rfl rfl (rp_assign rfl rfl) ?_
  refine AL.st rfl (st_store_any inf51 rfl rfl rfl rfl rfl rfl rfl rfl (by first | decide | (simp; done) | (simp; omega)) rfl) ?_
  refine AL.nil ?_
  try simp only [thenS, S.put, S.newObj, setL, V.cs, List.length_cons, List.length_nil, List.take_succ_cons, List.take_zero, List.drop_succ_cons, List.drop_zero, List.drop_nil, List.nil_append, List.cons_append, List.append_nil, Nat.zero_add, Nat.reduceAdd, List.map_cons, List.map_nil, List.set_cons_zero, List.set_cons_succ]
  refine AW.seq ?_
  refine AW.draw [(0, true), (1, true), (2, true), (3, true), (4, true), (5, true), (6, true), (7, false)] (fun i => !([7] : List Nat).contains i) 8 (by kernel_rfl) (by kernel_rfl) rfl (by kernel_rfl) ?_
  (first | (refine AD1.rd rfl rfl rfl (fun _ _ h => h) (rd_load_ref Tryd.underlying112 rfl rfl rfl rfl rfl rfl) ?_) | (refine AD1.rd rfl rfl rfl (fun _ _ h => h) (rd_load_ad Tryd.underlying112 rfl rfl rfl rfl) ?_) | (refine AD1.rd rfl rfl rfl (fun _ _ h => h) (rd_load_map Tryd.underlying112 rfl rfl rfl rfl rfl rfl (by assumption)) ?_) | (refine AD1.rd rfl rfl rfl (fun _ _ h => h) (rd_load_flat Tryd.underlying112 rfl rfl rfl rfl rfl rfl (fun _ => rfl) (by assumption) rfl) ?_))
  (first | (refine AD1.rp rfl rfl rfl (fun _ _ h => h) (rp_nilCheck rfl rfl) ?_) | (refine AD1.rp rfl rfl rfl (fun _ _ h => h) (rp_nilCheck_ad rfl rfl) ?_))
  (first | (refine AD1.rp rfl rfl rfl (fun _ _ h => h) (rp_field_ref Tryd.underlying128 rfl rfl rfl inf125 (by decide) rfl) ?_) | (refine AD1.rp rfl rfl rfl (fun _ _ h => h) (rp_field_ad Tryd.underlying128 rfl rfl rfl inf125 (by decide) rfl) ?_))
  (first | (refine AD1.rd rfl rfl rfl (fun _ _ h => h) (rd_load_ref Tryd.underlying125 rfl rfl rfl rfl rfl rfl) ?_) | (refine AD1.rd rfl rfl rfl (fun _ _ h => h) (rd_load_ad Tryd.underlying125 rfl rfl rfl rfl) ?_) | (refine AD1.rd rfl rfl rfl (fun _ _ h => h) (rd_load_map Tryd.underlying125 rfl rfl rfl rfl rfl rfl (by assumption)) ?_) | (refine AD1.rd rfl rfl rfl (fun _ _ h => h) (rd_load_flat Tryd.underlying125 rfl rfl rfl rfl rfl rfl (fun _ => rfl) (by assumption) rfl) ?_))
  (first | (refine AD1.rp rfl rfl rfl (fun _ _ h => h) (rp_field_ref Tryd.underlying51 rfl rfl rfl inf9 (by decide) rfl) ?_) | (refine AD1.rp rfl rfl rfl (fun _ _ h => h) (rp_field_ad Tryd.underlying51 rfl rfl rfl inf9 (by decide) rfl) ?_))
  (first | (refine AD1.rd rfl rfl rfl (fun _ _ h => h) (rd_load_ref Tryd.underlying9 rfl rfl rfl rfl rfl rfl) ?_) | (refine AD1.rd rfl rfl rfl (fun _ _ h => h) (rd_load_ad Tryd.underlying9 rfl rfl rfl rfl) ?_) | (refine AD1.rd rfl rfl rfl (fun _ _ h => h) (rd_load_map Tryd.underlying9 rfl rfl rfl rfl rfl rfl (by assumption)) ?_) | (refine AD1.rd rfl rfl rfl (fun _ _ h => h) (rd_load_flat Tryd.underlying9 rfl rfl rfl rfl rfl rfl (fun _ => rfl) (by assumption) rfl) ?_))
  refine AD1.rp rfl rfl rfl (fun _ _ h => h) (rp_move rfl rfl) ?_
  refine AD1.go ?_
  refine AD2.go ?_
  (first | (refine AD3.st rfl rfl rfl (st_mapUpdate2 (yy := false) (KeyOk.str Tryd.underlying9) Tryd.underlying125 rfl rfl (by rfl) rfl (fun g a w hs => VRep.p_eq (hs.ev rfl)) rfl rfl (by first | rfl | assumption | simp [S.put, S.newObj, setL, V.cs, V.mpsL, V.mps, D.mps, D.mpsL, D.mpsR, mpsR_ars, mpsR_sts, V.one])) ?_) | (refine AD3.st rfl rfl rfl (st_mapUpdate2 (yy := true) (KeyOk.str Tryd.underlying9) Tryd.underlying125 rfl rfl (by rfl) rfl (fun g a w hs => VRep.p_eq (hs.ev rfl)) rfl rfl (by first | rfl | assumption | simp [S.put, S.newObj, setL, V.cs, V.mpsL, V.mps, D.mps, D.mpsL, D.mpsR, mpsR_ars, mpsR_sts, V.one])) ?_))
  simp only [S.put, S.newObj, setL, V.cs, List.map_cons, List.map_nil, rowMap, upB_p, upB_sl, upB_ref, upB_own, upB_junk, upB_tup, upB_agg2, upB_F, upB_T, upB_nms, mpsR_nms]
  refine AD3.nil ?_
  try simp only [thenS, S.put, S.newObj, setL, V.cs, List.length_cons, List.length_nil, List.take_succ_cons, List.take_zero, List.drop_succ_cons, List.drop_zero, List.drop_nil, List.nil_append, List.cons_append, List.append_nil, Nat.zero_add, Nat.reduceAdd, List.map_cons, List.map_nil, List.set_cons_zero, List.set_cons_succ]
  refine AW.draw [(0, true), (1, true), (2, true), (3, true), (4, true), (5, true), (6, true), (7, false)] (fun i => !([7] : List Nat).contains i) 8 (by kernel_rfl) (by kernel_rfl) rfl (by kernel_rfl) ?_
  (first | (refine AD1.rd rfl rfl rfl (fun _ _ h => h) (rd_load_ref Tryd.underlying112 rfl rfl rfl rfl rfl rfl) ?_) | (refine AD1.rd rfl rfl rfl (fun _ _ h => h) (rd_load_ad Tryd.underlying112 rfl rfl rfl rfl) ?_) | (refine AD1.rd rfl rfl rfl (fun _ _ h => h) (rd_load_map Tryd.underlying112 rfl rfl rfl rfl rfl rfl (by assumption)) ?_) | (refine AD1.rd rfl rfl rfl (fun _ _ h => h) (rd_load_flat Tryd.underlying112 rfl rfl rfl rfl rfl rfl (fun _ => rfl) (by assumption) rfl) ?_))
  (first | (refine AD1.rp rfl rfl rfl (fun _ _ h => h) (rp_nilCheck rfl rfl) ?_) | (refine AD1.rp rfl rfl rfl (fun _ _ h => h) (rp_nilCheck_ad rfl rfl) ?_))
  (first | (refine AD1.rp rfl rfl rfl (fun _ _ h => h) (rp_field_ref Tryd.underlying128 rfl rfl rfl inf126 (by decide) rfl) ?_) | (refine AD1.rp rfl rfl rfl (fun _ _ h => h) (rp_field_ad Tryd.underlying128 rfl rfl rfl inf126 (by decide) rfl) ?_))
  (first | (refine AD1.rd rfl rfl rfl (fun _ _ h => h) (rd_load_ref Tryd.underlying126 rfl rfl rfl rfl rfl rfl) ?_) | (refine AD1.rd rfl rfl rfl (fun _ _ h => h) (rd_load_ad Tryd.underlying126 rfl rfl rfl rfl) ?_) | (refine AD1.rd rfl rfl rfl (fun _ _ h => h) (rd_load_map Tryd.underlying126 rfl rfl rfl rfl rfl rfl (by assumption)) ?_) | (refine AD1.rd rfl rfl rfl (fun _ _ h => h) (rd_load_flat Tryd.underlying126 rfl rfl rfl rfl rfl rfl (fun _ => rfl) (by assumption) rfl) ?_))
  (first | (refine AD1.rp rfl rfl rfl (fun _ _ h => h) (rp_field_ref Tryd.underlying51 rfl rfl rfl inf3 (by decide) rfl) ?_) | (refine AD1.rp rfl rfl rfl (fun _ _ h => h) (rp_field_ad Tryd.underlying51 rfl rfl rfl inf3 (by decide) rfl) ?_))
  (first | (refine AD1.rd rfl rfl rfl (fun _ _ h => h) (rd_load_ref Tryd.underlying3 rfl rfl rfl rfl rfl rfl) ?_) | (refine AD1.rd rfl rfl rfl (fun _ _ h => h) (rd_load_ad Tryd.underlying3 rfl rfl rfl rfl) ?_) | (refine AD1.rd rfl rfl rfl (fun _ _ h => h) (rd_load_map Tryd.underlying3 rfl rfl rfl rfl rfl rfl (by assumption)) ?_) | (refine AD1.rd rfl rfl rfl (fun _ _ h => h) (rd_load_flat Tryd.underlying3 rfl rfl rfl rfl rfl rfl (fun _ => rfl) (by assumption) rfl) ?_))
  refine AD1.rp rfl rfl rfl (fun _ _ h => h) (rp_move rfl rfl) ?_
  refine AD1.go ?_
  refine AD2.go ?_
  (first | (refine AD3.st rfl rfl rfl (st_mapUpdate2 (yy := false) (KeyOk.int Tryd.underlying3) Tryd.underlying126 rfl rfl (by rfl) rfl (fun g a w hs => VRep.p_eq (hs.ev rfl)) rfl rfl (by first | rfl | assumption | simp [S.put, S.newObj, setL, V.cs, V.mpsL, V.mps, D.mps, D.mpsL, D.mpsR, mpsR_ars, mpsR_sts, V.one])) ?_) | (refine AD3.st rfl rfl rfl (st_mapUpdate2 (yy := true) (KeyOk.int Tryd.underlying3) Tryd.underlying126 rfl rfl (by rfl) rfl (fun g a w hs => VRep.p_eq (hs.ev rfl)) rfl rfl (by first | rfl | assumption | simp [S.put, S.newObj, setL, V.cs, V.mpsL, V.mps, D.mps, D.mpsL, D.mpsR, mpsR_ars, mpsR_sts, V.one])) ?_))
  simp only [S.put, S.newObj, setL, V.cs, List.map_cons, List.map_nil, rowMap, upB_p, upB_sl, upB_ref, upB_own, upB_junk, upB_tup, upB_agg2, upB_F, upB_T, upB_nms, mpsR_nms]
  refine AD3.nil ?_
  try simp only [thenS, S.put, S.newObj, setL, V.cs, List.length_cons, List.length_nil, List.take_succ_cons, List.take_zero, List.drop_succ_cons, List.drop_zero, List.drop_nil, List.nil_append, List.cons_append, List.append_nil, Nat.zero_add, Nat.reduceAdd, List.map_cons, List.map_nil, List.set_cons_zero, List.set_cons_succ]
  refine AW.region ?_
  refine AL.rp rfl rfl (rp_add rfl rfl rfl (by first | omega | (dsimp only; omega))) ?_
  refine AL.rp rfl rfl (rp_move rfl rfl) ?_
  refine AL.nil ?_
  try simp only [thenS, S.put]
  refine ⟨_, ?_, ⟨k + 1, by omega, rfl⟩, ?_⟩
  ·rw [bldM_snoc hx, bldM_snoc hx]; exact (Less.of rfl (by repeat (first | exact trivial | refine ⟨⟨_, rfl, Wk.refl _⟩, ?_⟩ | refine ⟨⟨_, rfl, Wk.nil _ _⟩, ?_⟩ | refine ⟨⟨_, rfl, Wk.junk _⟩, ?_⟩)) (by repeat (first | exact trivial | refine ⟨rfl, ?_⟩)) rfl)
  ·simp [S.nat, fnd]; omega
 ·obtain rfl : k = len := by omega
  refine AW.seq ?_
  refine AW.region ?_
  (first | (refine AL.rp rfl rfl (rp_lssT rfl rfl rfl (by first | assumption | omega | (dsimp only; omega))) ?_) | (refine AL.rp rfl rfl (rp_lssF rfl rfl rfl (by first | assumption | omega | (dsimp only; omega))) ?_) | (refine AL.rp rfl rfl (rp_lss rfl rfl rfl) ?_))
  refine AL.nil ?_
  try simp only [thenS, S.put]
  refine AW.seq ?_
  refine AW.condF rfl ?_
  refine AW.exit ?_
  try simp only [thenS, inBlockS, ↓reduceIte, Nat.reduceEqDiff]
  exact ⟨[], trivial, rfl, rfl, rfl⟩
end Go.Proofs.YtlgnjehfojogmaaDoor
