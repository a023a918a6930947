/- From what the form reads of a run to the walk without worlds. -/
import Derived.Test.YtnpbdcjfealoeaaOpen
import Derived.Test.YtnpbdcjfealoeaaAmLaw
import Derived.Test.YtnpbdcjfealoeaaStrm
namespace Go.Proofs.Ytnpbdcjfealoeaa
section
open Go.RowKit
set_option linter.unusedSimpArgs false
set_option linter.unusedVariables false
instance : Inhabited Mk := ⟨⟨0, 0, []⟩⟩
instance : Inhabited Rn := ⟨⟨0, []⟩⟩
def mkCells (x : Int × Int × Value × List Int) : List Value := [.int .i64 x.1, .int .i64 x.2.1, x.2.2.1]
theorem mkCells_len (x : Int × Int × Value × List Int) : (mkCells x).length = 3 := rfl
def MarksAt (w : World) (v : Value) (l : List Mk) : Prop :=
  ∃ ts : List (Int × Int × Value × List Int), l = ts.map (fun x => ⟨x.1, x.2.1, x.2.2.2⟩) ∧ SlAt w 3 40 mkCells v ts ∧ ∀ x ∈ ts, IntsAt w x.2.2.1 x.2.2.2
def RunAt (w : World) (v : Value) (r : Rn) : Prop := ∃ sv, v = .agg #[.int .i64 r.f, sv] ∧ MarksAt w sv r.ms
theorem rep_intsD {w : World} {q : Nat → Prop} {v : Value} {l : List Int} (h : IntsAt w v l) (hq : ∀ b, q b) : DRep w q (intsD l) v :=
  DRep.of_sl h hq (by omega) (fun _ => by simp) intCells_len (fun x _ j u y hu hy => by
    match j, hu, hy with
    | 0, hu, hy => simp [intCells] at hu hy; subst hu hy; exact .p _
    | n + 1, hu, hy => simp at hu)
theorem rep_run {w : World} {q : Nat → Prop} {g : Nat → Nat × Nat} {v : Value} {r : Rn} (h : RunAt w v r) (hq : ∀ b, q b) : VRep w q g (rnV r) v := by
  obtain ⟨sv, rfl, ts, hts, hs, hall⟩ := h
  have h2 : DRep w q (mksD r.ms) sv := by
    have := DRep.of_sl (enc := fun x : Int × Int × Value × List Int => [D.p (.int .i64 x.1), D.p (.int .i64 x.2.1), intsD x.2.2.2]) hs hq (by omega) (fun _ => by simp) mkCells_len (fun x hx j u y hu hy => by
      match j, hu, hy with
      | 0, hu, hy => simp [mkCells] at hu hy; subst hu hy; exact .p _
      | 1, hu, hy => simp [mkCells] at hu hy; subst hu hy; exact .p _
      | 2, hu, hy => simp [mkCells] at hu hy; subst hu hy; exact rep_intsD (hall x hx) hq
      | n + 3, hu, hy => simp at hu)
    rw [hts]
    simpa [mksD, mkD, List.map_map, Function.comp_def] using this
  refine .agg [.i r.f, .d (mksD r.ms)] [.int .i64 r.f, sv] rfl fun j u y hu hy => ?_
  match j, hu, hy with
  | 0, hu, hy => simp at hu hy; subst hu hy; exact .d _ _ (.p _)
  | 1, hu, hy => simp at hu hy; subst hu hy; exact .d _ _ h2
  | n + 2, hu, hy => simp at hu
end
section
open Go.ChangeShapes Go.WideShapes Go.ChangeAt Go.RowKit Go.Deep Go.Joins
variable {H : Type} {enc : TypeId × Value → H} {w : World} {base : Nat} {spare : Nat → Bool} {held : Bool}
set_option maxRecDepth 100000
theorem elem_mark : ∀ n cs y q, DataW.trod enc Try.prog w base spare held n 65 cs = some (y, q) → Fits Try.prog 65 y → cs.length = 3 → ∃ x, cs = mkCells x ∧ IntsAt w x.2.2.1 x.2.2.2 := by
  intro n cs y q h fit hl
  obtain ⟨y0, y1, y2, m, hy, _, h0, h1, h2⟩ := trod_struct3 Try.underlying65 h
  simp only [Prod.mk.injEq] at hy
  obtain ⟨rfl, _⟩ := hy
  match cs, hl with
  | [c0, c1, c2], _ =>
    have k : Try.prog.cellsOf 3 = 1 := by kernel_rfl
    have k' : Try.prog.cellsOf 29 = 1 := by kernel_rfl
    simp only [k, k', List.drop_zero, List.drop_succ_cons, List.take_succ_cons, List.take_zero] at h0 h1 h2
    obtain ⟨n0, e0, _, _⟩ := DataW.trod_int Try.underlying3 h0
    obtain ⟨n1, e1, _, _⟩ := DataW.trod_int Try.underlying3 h1
    simp only [List.cons.injEq, and_true] at e0 e1
    subst e0 e1
    obtain ⟨l, h3, _⟩ := open_sl Try.underlying29 (by kernel_rfl) (by omega) (by kernel_rfl) intCells (fun _ => True) elem_int h2 (fits_field (j := 2) Try.underlying65 fit rfl rfl)
    exact ⟨(n0, n1, c2, l), rfl, h3⟩
theorem open_run {v : Value} {d : DataW H} {p : List MemPlace} {r : Reach} {b0 : Nat} (hv : Value.okWide Try.prog w r b0 27 v) (h : DataW.Trod enc Try.prog w base spare held 27 v d p) (fit : Fits Try.prog 27 d) : ∃ m, RunAt w v m := by
  obtain ⟨v0, v1, y0, y1, n, rfl, rfl, _, h0, h1⟩ := open_agg2 Try.underlying27 (by kernel_rfl) (by kernel_rfl) hv h
  obtain ⟨n0, e0, _, _⟩ := DataW.trod_int Try.underlying3 h0
  simp only [List.cons.injEq, and_true] at e0
  subst e0
  obtain ⟨l, h2, h3⟩ := open_sl Try.underlying25 (by kernel_rfl) (by omega) (by kernel_rfl) mkCells (fun x => IntsAt w x.2.2.1 x.2.2.2) elem_mark h1 (fits_field (j := 1) Try.underlying27 fit rfl rfl)
  exact ⟨⟨n0, l.map fun x => ⟨x.1, x.2.1, x.2.2.2⟩⟩, v1, rfl, l, rfl, h2, h3⟩
end
end Go.Proofs.Ytnpbdcjfealoeaa
