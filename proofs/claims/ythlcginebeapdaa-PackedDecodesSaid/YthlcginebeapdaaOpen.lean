/- From what the form reads of an argument to the words of the walks: integers, slices of integers, twins, machines. -/
import Derived.Test.YthlcginebeapdaaBase
import Derived.Test.YthlcginebeapdaaMach
import Derived.ProofKit
import Derived.OpenShut
import Derived.ShutString
import Derived.ChangeOld
import Derived.SizedLaws
import Derived.Deep.Slices
import Derived.Lib.SmallJoins
namespace Go.Proofs.Ythlcginebeapdaa
open Go.ChangeShapes Go.WideShapes Go.ChangeAt Go.RowKit Go.Deep Go.Joins
set_option maxRecDepth 100000
set_option linter.unusedSimpArgs false
set_option linter.unusedVariables false

theorem own : ownKnob Try.prog.godebug = none := by kernel_rfl
theorem laidOut : laidOutB Try.prog = true := by kernel_rfl

/-- All that is read of d is within the form's reach. -/
def Fits {H : Type} (P : Program) (t : TypeId) (d : DataW H) : Prop := ∀ n ∈ d.weights P t, n ≤ reachBytes

section
variable {H : Type} {enc : TypeId × Value → H} {P : Program} {w : World} {base : Nat} {spare : Nat → Bool} {held : Bool}

theorem fits_arg {ts : List TypeId} {ds : List (DataW H)} (h : (DataW.weightsEach P ts ds).all (· ≤ reachBytes) = true) {j : Nat} {t : TypeId} {d : DataW H} (ht : ts[j]? = some t) (hd : ds[j]? = some d) : Fits P t d := by
  intro n hn
  have := List.all_eq_true.1 h _ (DataW.weights_mem_each ht hd n hn)
  simpa using this

theorem mem_weightsAll {e : TypeId} : ∀ {l : List (DataW H)} {x : DataW H}, x ∈ l → ∀ n ∈ x.weights P e, n ∈ DataW.weightsAll P e l
  | [], _, h, _, _ => by simp at h
  | y :: r, x, h, n, hn => by
    rw [DataW.weightsAll]
    rcases List.mem_cons.1 h with rfl | h'
    · exact List.mem_append_left _ hn
    · exact List.mem_append_right _ (mem_weightsAll h' n hn)

theorem fits_elem {t e : TypeId} {elems rest : List (DataW H)} (hu : P.underlying t = some (.slice e)) (h : Fits P t (.slice elems rest)) {x : DataW H} (hx : x ∈ elems) : Fits P e x := by
  intro n hn
  refine h n ?_
  rw [DataW.weights, hu]
  exact List.mem_cons_of_mem _ (List.mem_append_left _ (mem_weightsAll hx n hn))

theorem fits_len {t e : TypeId} {elems rest : List (DataW H)} (hu : P.underlying t = some (.slice e)) (h : Fits P t (.slice elems rest)) : (elems.length + rest.length) * P.bytesOf e ≤ reachBytes := by
  refine h _ ?_
  rw [DataW.weights, hu]
  exact List.mem_cons_self

theorem fits_field {t : TypeId} {fs : Array Field} {parts : List (DataW H)} (hu : P.underlying t = some (.struct fs)) (h : Fits P t (.agg parts)) {j : Nat} {f : Field} {d : DataW H} (hf : fs[j]? = some f) (hd : parts[j]? = some d) : Fits P f.type d := by
  intro n hn
  refine h n ?_
  rw [DataW.weights, hu]
  exact DataW.weights_mem_each (j := j) (by simp [hf]) hd n hn

/-- A slice that is read, element by element. -/
theorem open_sl {α : Type} [Inhabited α] {t e : TypeId} {fuel sz bytes : Nat} {v : Value} {d : DataW H} {p : List MemPlace} (ht : P.underlying t = some (.slice e)) (hc : P.cellsOf e = sz) (hsz : 0 < sz) (hb : P.bytesOf e = bytes) (cells : α → List Value) (Good : α → Prop)
    (elem : ∀ n cs y q, DataW.trod enc P w base spare held n e cs = some (y, q) → Fits P e y → cs.length = sz → ∃ x, cs = cells x ∧ Good x)
    (h : DataW.trod enc P w base spare held fuel t [v] = some (d, p)) (fit : Fits P t d) :
    ∃ l : List α, SlAt w sz bytes cells v l ∧ ∀ x ∈ l, Good x := by
  rcases open_slice ht h with ⟨hv, hx⟩ | ⟨a, len, cap, m, n, D, Pl, hv, _, hl, hm, hmm, hx, hel⟩
  · simp only [List.cons.injEq, and_true] at hv
    subst hv
    exact ⟨[], SlAt.nil _ _ _ _, by simp⟩
  · simp only [List.cons.injEq, and_true] at hv
    subst hv
    simp only [Prod.mk.injEq] at hx
    obtain ⟨rfl, _⟩ := hx
    have hlm : len ≤ m := by rw [hmm]; split <;> omega
    have key : ∀ i, i < len → ∃ x, (∀ j, j < sz → w.cell? ((a.add (i * sz)).add j) = (cells x)[j]?) ∧ (cells x).length = sz ∧ Good x := by
      intro i hi
      obtain ⟨cs, h1, h2⟩ := hel i (by omega)
      rw [hc] at h1
      obtain ⟨_, h3, h4⟩ := World.cells?_some h1
      obtain ⟨x, rfl, hg⟩ := elem n cs _ _ h2 (fits_elem ht fit (by simp; exact ⟨i, hi, rfl⟩)) h3
      exact ⟨x, h4, h3, hg⟩
    obtain ⟨f, hf⟩ := choose_lt key
    have hspot : 0 < len → a.spot = none := by
      intro h0
      obtain ⟨k1, k2, _⟩ := hf 0 h0
      have k3 := k1 0 hsz
      rw [List.getElem?_eq_getElem (by omega)] at k3
      simp only [Nat.zero_mul, Addr.add] at k3
      simp only [if_true] at k3
      cases hs : a.spot with
      | none => rfl
      | some s =>
        unfold World.cell? at k3
        rw [hs] at k3
        revert k3
        cases w.heap[a.block]? with
        | none => simp
        | some o => cases o <;> simp
    have hlen := fits_len ht fit
    simp only [List.length_map, List.length_range, hb] at hlen
    refine ⟨(List.range len).map f, ⟨some a, cap, by simp, ?_, ⟨(fun h => by cases h), by simpa using hl⟩, ?_⟩, ?_⟩
    · have h1 : len * bytes ≤ (len + (m - len)) * bytes := Nat.mul_le_mul_right _ (by omega)
      simp only [List.length_map, List.length_range]
      unfold reachBytes at hlen
      omega
    · intro i hi
      simp only [List.length_map, List.length_range] at hi
      refine ⟨a.block, a.off, f i, ?_, by simp [List.getElem?_map, List.getElem?_range hi], fun j hj => ?_⟩
      · have := hspot (by omega)
        cases a
        simp_all
      · have h1 := (hf i hi).1 j hj
        have ha : a = ⟨a.block, a.off, none⟩ := by
          have := hspot (by omega)
          cases a
          simp_all
        rw [ha, addr_add, addr_add] at h1
        exact h1
    · intro x hx
      obtain ⟨i, hi, rfl⟩ := List.mem_map.1 hx
      exact (hf i (by simpa using hi)).2.2
end

section
variable {H : Type} {enc : TypeId × Value → H} {w : World} {base : Nat} {spare : Nat → Bool} {held : Bool}

theorem elem_int : ∀ n cs y q, DataW.trod enc Try.prog w base spare held n 3 cs = some (y, q) → Fits Try.prog 3 y → cs.length = 1 → ∃ x, cs = intCells x ∧ True := by
  intro n cs y q h _ _
  obtain ⟨m, rfl, _, _⟩ := DataW.trod_int Try.underlying3 h
  exact ⟨m, rfl, trivial⟩

theorem open_ints' {fuel : Nat} {v : Value} {d : DataW H} {p : List MemPlace} (h : DataW.trod enc Try.prog w base spare held fuel 82 [v] = some (d, p)) (fit : Fits Try.prog 82 d) : ∃ l, IntsAt w v l := by
  obtain ⟨l, h1, _⟩ := open_sl Try.underlying82 (by kernel_rfl) (by omega) (by kernel_rfl) intCells (fun _ => True) elem_int h fit
  exact ⟨l, h1⟩
theorem elem_arc : ∀ n cs y q, DataW.trod enc Try.prog w base spare held n 54 cs = some (y, q) → Fits Try.prog 54 y → cs.length = 4 → ∃ x, cs = arCells x ∧ True := by
  intro n cs y q h _ hl
  obtain ⟨y0, y1, y2, y3, m, _, _, h0, h1, h2, h3⟩ := trod_struct4 Try.underlying54 h
  match cs, hl with
  | [c0, c1, c2, c3], _ =>
    have k : Try.prog.cellsOf 3 = 1 := by kernel_rfl
    simp only [k, List.drop_zero, List.drop_succ_cons, List.take_succ_cons, List.take_zero] at h0 h1 h2 h3
    obtain ⟨n0, e0, _, _⟩ := DataW.trod_int Try.underlying3 h0
    obtain ⟨n1, e1, _, _⟩ := DataW.trod_int Try.underlying3 h1
    obtain ⟨n2, e2, _, _⟩ := DataW.trod_int Try.underlying3 h2
    obtain ⟨n3, e3, _, _⟩ := DataW.trod_int Try.underlying3 h3
    simp only [List.cons.injEq, and_true] at e0 e1 e2 e3
    subst e0 e1 e2 e3
    exact ⟨⟨n0, n1, n2, n3⟩, rfl, trivial⟩
theorem elem_state : ∀ n cs y q, DataW.trod enc Try.prog w base spare held n 50 cs = some (y, q) → Fits Try.prog 50 y → cs.length = 2 → ∃ x, cs = stCells x ∧ ArcsAt w x.2.1 x.2.2 := by
  intro n cs y q h fit hl
  obtain ⟨y0, y1, m, hy, _, h0, h1⟩ := trod_struct2 Try.underlying50 h
  simp only [Prod.mk.injEq] at hy
  obtain ⟨rfl, _⟩ := hy
  match cs, hl with
  | [c0, c1], _ =>
    have k : Try.prog.cellsOf 3 = 1 := by kernel_rfl
    have k' : Try.prog.cellsOf 48 = 1 := by kernel_rfl
    simp only [k, k', List.drop_zero, List.drop_succ_cons, List.take_succ_cons, List.take_zero] at h0 h1
    obtain ⟨n0, e0, _, _⟩ := DataW.trod_int Try.underlying3 h0
    simp only [List.cons.injEq, and_true] at e0
    subst e0
    obtain ⟨l, h2, _⟩ := open_sl Try.underlying48 (by kernel_rfl) (by omega) (by kernel_rfl) arCells (fun _ => True) elem_arc h1 (fits_field (j := 1) Try.underlying50 fit rfl rfl)
    exact ⟨(n0, c1, l), rfl, h2⟩
theorem open_machine {v : Value} {d : DataW H} {p : List MemPlace} {r : Reach} {b0 : Nat} (hv : Value.okWide Try.prog w r b0 24 v) (h : DataW.Trod enc Try.prog w base spare held 24 v d p) (fit : Fits Try.prog 24 d) : ∃ m, MachAt w v m := by
  obtain ⟨v0, v1, y0, y1, n, rfl, rfl, _, h0, h1⟩ := open_agg2 Try.underlying24 (by kernel_rfl) (by kernel_rfl) hv h
  obtain ⟨n0, e0, _, _⟩ := DataW.trod_int Try.underlying3 h0
  simp only [List.cons.injEq, and_true] at e0
  subst e0
  obtain ⟨l, h2, h3⟩ := open_sl Try.underlying22 (by kernel_rfl) (by omega) (by kernel_rfl) stCells (fun x => ArcsAt w x.2.1 x.2.2) elem_state h1 (fits_field (j := 1) Try.underlying24 fit rfl rfl)
  exact ⟨⟨n0, l.map fun x => ⟨x.1, x.2.2⟩⟩, v1, rfl, l, rfl, h2, h3⟩
end
end Go.Proofs.Ythlcginebeapdaa
