/- Two maps of the call's own, one beside the other: made, written to, frozen. -/
import Derived.Test.YtbffolmgkkknpaaDoorAmK
import Derived.Test.YtbffolmgkkknpaaDoorAmHp
namespace Go.Proofs.YtbffolmgkkknpaaDoor
open Go.RowKit
set_option linter.unusedSimpArgs false
set_option linter.unusedVariables false

theorem ba_beq (a b : ByteArray) : (a == b) = decide (a = b) := by
  cases a with | mk x =>
  cases b with | mk y =>
  show (x == y) = _
  by_cases h : x = y
  · subst h; simp
  · have h2 : ¬ (⟨x⟩ : ByteArray) = ⟨y⟩ := fun e => h (congrArg ByteArray.data e)
    simp [h, h2]
theorem findNow_str (a : ByteArray) : ∀ (l : List (ByteArray × Int)) (i j : Nat), Instr.findNow .string (.string a) ((((l.map fun x => ((Value.string x.1, Value.int .i64 x.2) : Value × Value)).zipIdx j).map fun x => ({ key := x.1.1, val := x.1.2, born := x.2 } : MapEntry))) i = some ((mfind l a i).map fun x => (x.1, .int .i64 x.2))
  | [], i, j => rfl
  | (k, v) :: l, i, j => by
    simp only [List.map_cons, List.zipIdx_cons, Instr.findNow, Instr.sameNow, mfind]
    by_cases e : a = k
    · subst e; simp [ba_beq]
    · have : (a == k) = false := by rw [ba_beq]; simpa using e
      simp only [this, if_neg e]
      exact findNow_str a l (i + 1) (j + 1)
theorem KeyOk.str {P : Program} {k : TypeId} (hu : P.underlying k = some .string) : KeyOk P k (fun a : ByteArray => .string a) := by
  refine ⟨fun b a w => ?_, fun l a w => ?_, fun a => ?_⟩
  · have : ∀ n : Nat, (Instr.checkKey b (n + 1) k (.string a)).run P w = .ok () w := fun n => by simp [Instr.checkKey, run_underlying hu]
    exact this 9999
  · have := findNow_str a l 0 0
    simp only [Instr.findKey, Sem.run_bind, run_underlying hu, Result.andThen_ok, ments, mrows, List.toList_toArray, this]
    rfl
  · have : ∀ n : Nat, Instr.sameBits n (.string a) (.string a) = true := fun n => by cases n <;> simp [Instr.sameBits, ba_beq]
    exact this 10000
abbrev smap (l : List (ByteArray × Int)) : List (Value × Value) := mrows (fun a : ByteArray => Value.string a) l

/-- One of the two maps now holds l; of other maps nothing is said. -/
def upB (y : Bool) (r r' : Nat) (l : List (Value × Value)) : V → V
  | .mp2 x k k' N m m' => if k = r ∧ k' = r' then .mp2 x k k' N (if y then m else l) (if y then l else m') else .junk
  | v => if v.mps then .junk else v
def rowMap (f : V → V) (x : Row) : Row := { x with cells := x.cells.map f }

section
variable {c : Cx} {s : S} {o : Oper} {g : Nat → Nat × Nat} {a : Act} {w : World} {Q : Exit → S → Prop}

theorem Sim.upMap2 (hs : Sim c g s a w) {y : Bool} {r r' : Nat} {l : List (Value × Value)} {es : Array MapEntry} {n0 : Nat} (hb : w.heap[(g (if y then r' else r)).1]? = some (.map es n0)) (hne : (g r).1 ≠ (g r').1) (hN : c.w0.heap.size ≤ (g (if y then r' else r)).1) (hK : V.mpsL s.K = false) :
    Sim c g ⟨s.n, s.T.map (fun x => (x.1, upB y r r' l x.2)), s.H.map (fun x => (x.1, rowMap (upB y r r' l) x.2)), s.K⟩ a { w with heap := w.heap.setIfInBounds (g (if y then r' else r)).1 (.map (ments l) l.length) } := by
  obtain ⟨b, hbb⟩ : ∃ b, b = (g (if y then r' else r)).1 := ⟨_, rfl⟩
  rw [← hbb] at hb hN ⊢
  have hlt : b < w.heap.size := (Array.getElem?_eq_some_iff.1 hb).1
  obtain ⟨w', hw'⟩ : ∃ w', w' = { w with heap := w.heap.setIfInBounds b (.map (ments l) l.length) } := ⟨_, rfl⟩
  have hsz : w'.heap.size = w.heap.size := by rw [hw']; simp
  have hoth : ∀ k, k ≠ b → w'.heap[k]? = w.heap[k]? := fun k hne => by rw [hw']; simp [Array.getElem?_setIfInBounds_ne (Ne.symm hne)]
  have hnew : w'.heap[b]? = some (.map (ments l) l.length) := by rw [hw']; simp [hlt]
  have hc : ∀ (k o : Nat) (u : Value), w.cell? ⟨k, o, none⟩ = some u → w'.cell? ⟨k, o, none⟩ = some u := by
    intro k o u h
    by_cases e : k = b
    · subst e
      simp [World.cell?, hb] at h
    · exact (World.cell?_of_block (w := w) (a := ⟨k, o, none⟩) (hoth k e)).trans h
  have hfn : ∀ k row', fnd (s.H.map (fun x => (x.1, rowMap (upB y r r' l) x.2))) k = some row' → ∃ row, fnd s.H k = some row ∧ row' = rowMap (upB y r r' l) row := by
    intro k row' hk
    rw [fnd_map] at hk
    cases hu : fnd s.H k with
    | none => rw [hu] at hk; cases hk
    | some row => rw [hu] at hk; exact ⟨row, rfl, by simpa using hk.symm⟩
  have hq : ∀ k, qt c s.H g k → k < w'.heap.size → qt c (s.H.map (fun x => (x.1, rowMap (upB y r r' l) x.2))) g k := fun k hk _ => ⟨hk.1, fun j row' hj hn => by
    obtain ⟨row, h1, rfl⟩ := hfn j row' hj
    exact hk.2 j row h1 hn⟩
  have hm : ∀ {v x}, v.mps = false → VRep w (qt c s.H g) g v x → VRep w' (qt c (s.H.map (fun x => (x.1, rowMap (upB y r r' l) x.2))) g) g v x := fun hv h => (h.nomap (by omega) hc hv).mono Cells.rfl hq (fun _ _ => rfl)
  have hup : ∀ {u : V} {x : Value}, VRep w (qt c s.H g) g u x → VRep w' (qt c (s.H.map (fun x => (x.1, rowMap (upB y r r' l) x.2))) g) g (upB y r r' l u) x := by
    intro u x h2
    have hgen : VRep w' (qt c (s.H.map (fun x => (x.1, rowMap (upB y r r' l) x.2))) g) g (if u.mps then .junk else u) x := by
      split
      · exact .junk _
      · rename_i hne; exact hm (by simpa using hne) h2
    cases u with
    | mp2 z k k' N m m' =>
      simp only [upB]
      split
      · rename_i e
        obtain ⟨rfl, rfl⟩ := e
        cases h2 with
        | mp2 _ _ _ _ _ _ k1 k2 k3 k4 k5 =>
          refine .mp2 _ _ _ _ _ _ k1 k2 k3 ?_ ?_
          · cases y
            · simp only [Bool.false_eq_true, if_false] at hbb ⊢
              rw [← hbb]; exact hnew
            · simp only [if_true] at hbb ⊢
              rw [hoth _ (by rw [hbb]; exact hne)]; exact k4
          · cases y
            · simp only [Bool.false_eq_true, if_false] at hbb ⊢
              rw [hoth _ (by rw [hbb]; exact Ne.symm hne)]; exact k5
            · simp only [if_true] at hbb ⊢
              rw [← hbb]; exact hnew
      · exact .junk _
    | mp _ _ _ => exact hgen
    | d _ => exact hgen
    | ad _ => exact hgen
    | ref _ _ => exact hgen
    | own _ _ _ _ => exact hgen
    | que _ _ _ _ => exact hgen
    | agg _ => exact hgen
    | tup _ => exact hgen
    | fn _ _ => exact hgen
    | mq _ _ _ => exact hgen
    | ifc _ _ => exact hgen
    | it _ _ _ _ => exact hgen
    | junk => exact .junk _
  rw [← hw']
  refine ⟨hs.size, hs.defers, ?_, ?_, ?_, ?_, ?_, ?_, hs.low, ?_⟩
  · intro i v hv
    simp only at hv
    rw [fnd_map] at hv
    cases hu : fnd s.T i with
    | none => rw [hu] at hv; cases hv
    | some u =>
      rw [hu] at hv
      simp only [Option.map_some, Option.some.injEq] at hv
      obtain ⟨x, h1, h2⟩ := hs.tmp i u hu
      subst hv
      exact ⟨x, h1, hup h2⟩
  · intro k row' hk hn
    obtain ⟨row, h1, rfl⟩ := hfn k row' hk
    have := hs.nul k row h1 hn
    simp [rowMap, this]
  · intro k row' hk hn
    obtain ⟨row, h0, rfl⟩ := hfn k row' hk
    obtain ⟨arr, h1, h2, h3⟩ := hs.obj k row h0 hn
    refine ⟨arr, (hoth _ fun e => ?_).trans h1, h2, fun j v hv => ?_⟩
    · rw [e, hb] at h1; cases h1
    · simp only [rowMap, List.getElem?_map] at hv
      cases hu : row.cells[j]? with
      | none => rw [hu] at hv; cases hv
      | some u =>
        rw [hu] at hv
        simp only [Option.map_some, Option.some.injEq] at hv
        obtain ⟨x, h4, h5⟩ := h3 j u hu
        subst hv
        exact ⟨x, h4, hup h5⟩
  · intro j v x h1 h2
    exact hm (V.mpsL_false.1 hK v (List.mem_of_getElem? h1)) (hs.keep j v x h1 h2)
  · intro k k' row1 row2 h1 n1 h2 n2 h3
    obtain ⟨_, h1', rfl⟩ := hfn k row1 h1
    obtain ⟨_, h2', rfl⟩ := hfn k' row2 h2
    exact hs.inj k k' _ _ h1' n1 h2' n2 h3
  · intro k row1 h1 n1
    obtain ⟨_, h1', rfl⟩ := hfn k row1 h1
    exact hs.base k _ h1' n1
  · refine hs.below.trans ⟨by rw [hw'], by rw [hw'], by rw [hw'], by omega, fun k hk => hoth k ?_⟩
    omega

/-- A map, told as one of two. -/
def to2 (z : Bool) (r r' N : Nat) : V → V
  | .mp k M l => if k = (if z then r' else r) ∧ M = N then .mp2 z r r' N (if z then [] else l) (if z then l else []) else .mp k M l
  | v => v
theorem Sim.to2 (hs : Sim c g s a w) {z : Bool} {r r' N : Nat} {n0 : Nat → Nat → Prop} (hne : (g r).1 ≠ (g r').1) (hN : N ≤ (g (if z then r else r')).1) (hm : w.heap[(g (if z then r else r')).1]? = some (.map (ments []) 0)) :
    Sim c g ⟨s.n, s.T.map (fun x => (x.1, Go.Proofs.YtbffolmgkkknpaaDoor.to2 z r r' N x.2)), s.H.map (fun x => (x.1, rowMap (Go.Proofs.YtbffolmgkkknpaaDoor.to2 z r r' N) x.2)), s.K⟩ a w := by
  have hfn : ∀ k row', fnd (s.H.map (fun x => (x.1, rowMap (Go.Proofs.YtbffolmgkkknpaaDoor.to2 z r r' N) x.2))) k = some row' → ∃ row, fnd s.H k = some row ∧ row' = rowMap (Go.Proofs.YtbffolmgkkknpaaDoor.to2 z r r' N) row := by
    intro k row' hk
    rw [fnd_map] at hk
    cases hu : fnd s.H k with
    | none => rw [hu] at hk; cases hk
    | some row => rw [hu] at hk; exact ⟨row, rfl, by simpa using hk.symm⟩
  have hq : ∀ k, qt c s.H g k → k < w.heap.size → qt c (s.H.map (fun x => (x.1, rowMap (Go.Proofs.YtbffolmgkkknpaaDoor.to2 z r r' N) x.2))) g k := fun k hk _ => ⟨hk.1, fun j row' hj hn => by
    obtain ⟨row, h1, rfl⟩ := hfn j row' hj
    exact hk.2 j row h1 hn⟩
  have hm2 : ∀ {v x}, VRep w (qt c s.H g) g v x → VRep w (qt c (s.H.map (fun x => (x.1, rowMap (Go.Proofs.YtbffolmgkkknpaaDoor.to2 z r r' N) x.2))) g) g (Go.Proofs.YtbffolmgkkknpaaDoor.to2 z r r' N v) x := by
    intro v x h
    have h := h.mono Cells.rfl hq (fun _ _ => rfl)
    cases v with
    | mp k M l =>
      show VRep w _ g (if k = (if z then r' else r) ∧ M = N then .mp2 z r r' N (if z then [] else l) (if z then l else []) else .mp k M l) x
      by_cases e : k = (if z then r' else r) ∧ M = N
      · rw [if_pos e]
        obtain ⟨e1, e2⟩ := e
        subst e2
        cases h with
        | mp _ _ _ h1 h2 =>
          rw [e1] at h1 h2 ⊢
          clear e1
          cases z
          · simp only [Bool.false_eq_true, if_false] at h1 h2 hN hm ⊢
            exact .mp2 false r r' _ l [] h1 hN hne h2 hm
          · simp only [if_true] at h1 h2 hN hm ⊢
            exact .mp2 true r r' _ [] l hN h1 hne hm h2
      · rw [if_neg e]
        exact h
    | _ => exact h
  refine ⟨hs.size, hs.defers, ?_, ?_, ?_, ?_, ?_, ?_, hs.low, hs.below⟩
  · intro i v hv
    simp only at hv
    rw [fnd_map] at hv
    cases hu : fnd s.T i with
    | none => rw [hu] at hv; cases hv
    | some u =>
      rw [hu] at hv
      simp only [Option.map_some, Option.some.injEq] at hv
      obtain ⟨x, h1, h2⟩ := hs.tmp i u hu
      subst hv
      exact ⟨x, h1, hm2 h2⟩
  · intro k row' hk hn
    obtain ⟨row, h1, rfl⟩ := hfn k row' hk
    have := hs.nul k row h1 hn
    simp [rowMap, this]
  · intro k row' hk hn
    obtain ⟨row, h0, rfl⟩ := hfn k row' hk
    obtain ⟨arr, h1, h2, h3⟩ := hs.obj k row h0 hn
    refine ⟨arr, h1, h2, fun j v hv => ?_⟩
    simp only [rowMap, List.getElem?_map] at hv
    cases hu : row.cells[j]? with
    | none => rw [hu] at hv; cases hv
    | some u =>
      rw [hu] at hv
      simp only [Option.map_some, Option.some.injEq] at hv
      obtain ⟨x, h4, h5⟩ := h3 j u hu
      subst hv
      exact ⟨x, h4, hm2 h5⟩
  · intro j v x h1 h2
    exact (hs.keep j v x h1 h2).mono Cells.rfl hq (fun _ _ => rfl)
  · intro k k' row1 row2 h1 n1 h2 n2 h3
    obtain ⟨_, h1', rfl⟩ := hfn k row1 h1
    obtain ⟨_, h2', rfl⟩ := hfn k' row2 h2
    exact hs.inj k k' _ _ h1' n1 h2' n2 h3
  · intro k row1 h1 n1
    obtain ⟨_, h1', rfl⟩ := hfn k row1 h1
    exact hs.base k _ h1' n1

/-- A second map beside a first one, which some slot holds: z tells which of the two is the elder one. -/
theorem sm_makeMap2 (z : Bool) (d1 r r' : Nat) {t : TypeId} {l : List (Value × Value)} {N : Nat} (ho : o.op = .makeMap t none) (hr : s.clean (if z then r else r') = true) (hd : dok s o = true) (h1 : fnd s.T d1 = some (.mp (if z then r' else r) N l)) (hN : N = c.w0.heap.size) :
    StepM c o s (fun s' => s' = S.put ⟨s.n, s.T.map (fun x => (x.1, to2 z r r' N x.2)), s.H.map (fun x => (x.1, rowMap (to2 z r r' N) x.2)), s.K⟩ o.dst (.mp2 (!z) r r' N (if z then [] else l) (if z then l else []))) := by
  subst hN
  intro g a w hs K Q hK
  have hb : Below w.heap.size w (w.alloc (.map #[] 0)) := (Below.refl _ _).alloc (Nat.le_refl _) _
  have hrr : (if z then r' else r) ≠ (if z then r else r') := by
    intro e
    have := S.clean_tmp hr h1
    simp [V.has, e] at this
  have hs1 := (hs.move hb).regauge hr (w.heap.size, 0)
  obtain ⟨g1, hg1⟩ : ∃ g1 : Nat → Nat × Nat, g1 = fun k => if k = (if z then r else r') then (w.heap.size, 0) else g k := ⟨_, rfl⟩
  rw [← hg1] at hs1
  obtain ⟨x, k1, k2⟩ := hs.tmp d1 _ h1
  cases k2 with
  | mp _ _ _ hN1 hm1 =>
    have hlt : (g (if z then r' else r)).1 < w.heap.size := (Array.getElem?_eq_some_iff.1 hm1).1
    have hm1' : (w.alloc (.map #[] 0)).heap[(g (if z then r' else r)).1]? = some (.map (ments l) l.length) := (hb.block _ hlt).trans hm1
    have hnew : (w.alloc (.map #[] 0)).heap[w.heap.size]? = some (.map (ments []) 0) := heap_alloc_new w _
    have e1 : g1 (if z then r else r') = (w.heap.size, 0) := by rw [hg1]; simp
    have e2 : g1 (if z then r' else r) = g (if z then r' else r) := by rw [hg1]; simp only [if_neg hrr]
    have hsz := hs.below.size
    have hs2 := hs1.to2 (n0 := fun _ _ => True) (z := z) (r := r) (r' := r') (N := c.w0.heap.size) (by
      cases z
      · simp only [Bool.false_eq_true, if_false] at e1 e2 hlt
        rw [e1, e2]; simp only; omega
      · simp only [if_true] at e1 e2 hlt
        rw [e1, e2]; simp only; omega) (by rw [e1]; exact hsz) (by rw [e1]; exact hnew)
    unfold Oper.wp
    have hexec : (execOp a.eval o).run c.P w = .ok (.value (.map (some w.heap.size))) (w.alloc (.map #[] 0)) := by
      simp [execOp, ho, Instr.makeMap]
    rw [hexec]
    refine hK g1 _ _ _ rfl (hs2.put o.dst (dok_spec (s := s) hd) ?_) hb
    cases z
    · simp only [Bool.false_eq_true, if_false, Bool.not_false] at e1 e2 hlt hm1' hN1 ⊢
      have := VRep.mp2 (w := w.alloc (.map #[] 0)) (q := qt c (s.H.map (fun x => (x.1, rowMap (Go.Proofs.YtbffolmgkkknpaaDoor.to2 false r r' c.w0.heap.size) x.2))) g1) (g := g1) true r r' c.w0.heap.size l [] (by rw [e2]; exact hN1) (by rw [e1]; exact hsz) (by rw [e1, e2]; simp only; omega) (by rw [e2]; exact hm1') (by rw [e1]; exact hnew)
      simpa only [if_true, e1] using this
    · simp only [if_true, Bool.not_true] at e1 e2 hlt hm1' hN1 ⊢
      have := VRep.mp2 (w := w.alloc (.map #[] 0)) (q := qt c (s.H.map (fun x => (x.1, rowMap (Go.Proofs.YtbffolmgkkknpaaDoor.to2 true r r' c.w0.heap.size) x.2))) g1) (g := g1) false r r' c.w0.heap.size [] l (by rw [e1]; exact hsz) (by rw [e2]; exact hN1) (by rw [e1, e2]; simp only; omega) (by rw [e1]; exact hnew) (by rw [e2]; exact hm1')
      simpa only [Bool.false_eq_true, if_false, e1] using this

section
variable {K : Type} [DecidableEq K] {enc : K → Value}
theorem st_mapUpdate2 {t k e : TypeId} {x y z : Operand} {yy : Bool} {r r' N : Nat} {m m' : List (Value × Value)} {l : List (K × Int)} {key : K} {v : Int} (hk : KeyOk c.P k enc) (hu : c.P.underlying t = some (.map k e)) (ho : o.op = .mapUpdate t x y z) (hd : o.dst = none) (hx : s.ev x = some (.mp2 yy r r' N m m')) (hl : (if yy then m' else m) = mrows enc l) (hy : ∀ g a w, Sim c g s a w → a.eval y = enc key) (hz : s.ev z = some (.i v))
    (hN : N = c.w0.heap.size) (hK : V.mpsL s.K = false) : Step c o s (fun s' => s' = ⟨s.n, s.T.map (fun x => (x.1, upB yy r r' (mrows enc (mput l key v)) x.2)), s.H.map (fun x => (x.1, rowMap (upB yy r r' (mrows enc (mput l key v))) x.2)), s.K⟩) := by
  subst hN
  intro g a w hs K' Q hK'
  have hx' : a.eval x = .map (some (g (if yy then r' else r)).1) ∧ (g r).1 ≠ (g r').1 ∧ c.w0.heap.size ≤ (g (if yy then r' else r)).1 ∧ w.heap[(g (if yy then r' else r)).1]? = some (.map (ments (mrows enc l)) (mrows enc l).length) := by
    have h := hs.ev hx
    generalize a.eval x = u at h
    rw [← hl]
    cases h with
    | mp2 _ _ _ _ _ _ k1 k2 k3 k4 k5 =>
      refine ⟨rfl, k3, ?_, ?_⟩
      · cases yy
        · exact k1
        · exact k2
      · cases yy
        · exact k4
        · exact k5
  obtain ⟨hxe, hne, hNb, hm⟩ := hx'
  obtain ⟨b, hbb⟩ : ∃ b, b = (g (if yy then r' else r)).1 := ⟨_, rfl⟩
  have hrun : (Instr.mapUpdate t (.map (some b)) (enc key) (.int .i64 v)).run c.P w = .ok () { w with heap := w.heap.setIfInBounds b (.map (ments (mrows enc (mput l key v))) (mrows enc (mput l key v)).length) } := by
    rw [← hbb] at hm
    simp only [Instr.mapUpdate, Sem.run_bind, run_underlying hu, Result.andThen_ok, run_getMap hm, hk.check, hk.find]
    unfold mput
    cases h : mfind l key 0 with
    | none =>
      simp only [Option.map_none, run_setMap _ hm, ments_push]
      simp [mrows]
    | some p =>
      obtain ⟨i, v0⟩ := p
      have hget : (mrows enc l)[i]? = some (enc key, .int .i64 v0) := by simp [mrows, mfind_some h]
      have hk0 : (((ments (mrows enc l))[i]?).map (·.key)).getD (enc key) = enc key := by rw [ments_get, hget]; rfl
      simp only [Option.map_some, hk0, Instr.keyThatStays, hk.same, if_true, Sem.run_bind, Sem.run_pure, Result.andThen_ok, run_setMap _ hm, ments_modify _ _ _ _ _ _ hget]
      simp [mrows, List.map_set]
  unfold Oper.wp
  have hexec : (execOp a.eval o).run c.P w = .ok .skip { w with heap := w.heap.setIfInBounds b (.map (ments (mrows enc (mput l key v))) (mrows enc (mput l key v)).length) } := by
    rw [← hbb] at hxe
    simp only [execOp, ho, hxe, hy g a w hs, VRep.p_eq (hs.ev hz), Sem.run_bind, hrun, Result.andThen_ok]
    rfl
  rw [hexec]
  simp only [Oper.upon, hd, Act.put]
  rw [hbb]
  exact hK' g _ a _ rfl (hs.upMap2 hm hne hNb hK)
end

/-- Two maps that are not written to any more. -/
def frz2 (N : Nat) : V → V
  | .mp2 x _ _ k m m' => if k = N then .d (.mp (if x then m' else m)) else .junk
  | v => v
theorem VRep.frz2 {v : V} {x : Value} {q : Nat → Prop} (h : VRep w q g v x) {N : Nat} (hq : ∀ b es n, w.heap[b]? = some (.map es n) → N ≤ b → q b) : VRep w q g (Go.Proofs.YtbffolmgkkknpaaDoor.frz2 N v) x := by
  cases v with
  | mp2 z r r' k m m' =>
    simp only [Go.Proofs.YtbffolmgkkknpaaDoor.frz2]
    split
    · rename_i e
      subst e
      cases h with
      | mp2 _ _ _ _ _ _ k1 k2 k3 k4 k5 =>
        cases z
        · exact .d _ _ (.mp m _ ⟨hq _ _ _ k4 k1, (Array.getElem?_eq_some_iff.1 k4).1⟩ k4)
        · exact .d _ _ (.mp m' _ ⟨hq _ _ _ k5 k2, (Array.getElem?_eq_some_iff.1 k5).1⟩ k5)
    · exact .junk _
  | _ => exact h
theorem Sim.frz2 (hs : Sim c g s a w) {N : Nat} (hN : c.w0.heap.size ≤ N) : Sim c g ⟨s.n, s.T.map (fun x => (x.1, Go.Proofs.YtbffolmgkkknpaaDoor.frz2 N x.2)), s.H.map (fun x => (x.1, rowMap (Go.Proofs.YtbffolmgkkknpaaDoor.frz2 N) x.2)), s.K⟩ a w := by
  have hfn : ∀ k row', fnd (s.H.map (fun x => (x.1, rowMap (Go.Proofs.YtbffolmgkkknpaaDoor.frz2 N) x.2))) k = some row' → ∃ row, fnd s.H k = some row ∧ row' = rowMap (Go.Proofs.YtbffolmgkkknpaaDoor.frz2 N) row := by
    intro k row' hk
    rw [fnd_map] at hk
    cases hu : fnd s.H k with
    | none => rw [hu] at hk; cases hk
    | some row => rw [hu] at hk; exact ⟨row, rfl, by simpa using hk.symm⟩
  have hq : ∀ k, qt c s.H g k → k < w.heap.size → qt c (s.H.map (fun x => (x.1, rowMap (Go.Proofs.YtbffolmgkkknpaaDoor.frz2 N) x.2))) g k := fun k hk _ => ⟨hk.1, fun j row' hj hn => by
    obtain ⟨row, h1, rfl⟩ := hfn j row' hj
    exact hk.2 j row h1 hn⟩
  have hmq : ∀ b es n, w.heap[b]? = some (.map es n) → N ≤ b → qt c (s.H.map (fun x => (x.1, rowMap (Go.Proofs.YtbffolmgkkknpaaDoor.frz2 N) x.2))) g b := by
    intro b es n hb hN'
    refine ⟨fun ho => ?_, fun k row' hk hn e => ?_⟩
    · have := hs.low _ ho
      omega
    · obtain ⟨row, h1, rfl⟩ := hfn k row' hk
      obtain ⟨arr, h3, _⟩ := hs.obj k row h1 hn
      rw [e, hb] at h3
      cases h3
  have hm : ∀ {v x}, VRep w (qt c s.H g) g v x → VRep w (qt c (s.H.map (fun x => (x.1, rowMap (Go.Proofs.YtbffolmgkkknpaaDoor.frz2 N) x.2))) g) g v x := fun h => h.mono Cells.rfl hq (fun _ _ => rfl)
  refine ⟨hs.size, hs.defers, ?_, ?_, ?_, ?_, ?_, ?_, hs.low, hs.below⟩
  · intro i v hv
    simp only at hv
    rw [fnd_map] at hv
    cases hu : fnd s.T i with
    | none => rw [hu] at hv; cases hv
    | some u =>
      rw [hu] at hv
      simp only [Option.map_some, Option.some.injEq] at hv
      obtain ⟨x, h1, h2⟩ := hs.tmp i u hu
      subst hv
      exact ⟨x, h1, (hm h2).frz2 hmq⟩
  · intro k row' hk hn
    obtain ⟨row, h1, rfl⟩ := hfn k row' hk
    have := hs.nul k row h1 hn
    simp [rowMap, this]
  · intro k row' hk hn
    obtain ⟨row, h0, rfl⟩ := hfn k row' hk
    obtain ⟨arr, h1, h2, h3⟩ := hs.obj k row h0 hn
    refine ⟨arr, h1, h2, fun j v hv => ?_⟩
    simp only [rowMap, List.getElem?_map] at hv
    cases hu : row.cells[j]? with
    | none => rw [hu] at hv; cases hv
    | some u =>
      rw [hu] at hv
      simp only [Option.map_some, Option.some.injEq] at hv
      obtain ⟨x, h4, h5⟩ := h3 j u hu
      subst hv
      exact ⟨x, h4, (hm h5).frz2 hmq⟩
  · intro j v x h1 h2
    exact hm (hs.keep j v x h1 h2)
  · intro k k' row1 row2 h1 n1 h2 n2 h3
    obtain ⟨_, h1', rfl⟩ := hfn k row1 h1
    obtain ⟨_, h2', rfl⟩ := hfn k' row2 h2
    exact hs.inj k k' _ _ h1' n1 h2' n2 h3
  · intro k row1 h1 n1
    obtain ⟨_, h1', rfl⟩ := hfn k row1 h1
    exact hs.base k _ h1' n1
end
section
variable (y : Bool) (r r' : Nat) (l : List (Value × Value))
theorem to2_d (N : Nat) (x : D) : to2 y r r' N (.d x) = .d x := rfl
theorem to2_ref (N a b : Nat) : to2 y r r' N (.ref a b) = .ref a b := rfl
theorem to2_own (N a b n : Nat) (z : Bool) : to2 y r r' N (.own a b n z) = .own a b n z := rfl
theorem to2_junk (N : Nat) : to2 y r r' N .junk = .junk := rfl
theorem to2_F (N : Nat) (l : List (Value × Value)) : to2 false r r' N (.mp r N l) = .mp2 false r r' N l [] := by simp [to2]
theorem to2_T (N : Nat) (l : List (Value × Value)) : to2 true r r' N (.mp r' N l) = .mp2 true r r' N [] l := by simp [to2]
theorem upB_p (x : Value) : upB y r r' l (.d (.p x)) = .d (.p x) := rfl
theorem upB_sl (sz bt : Nat) (rows : List (List D)) (h : D.mpsR rows = false) : upB y r r' l (.d (.sl sz bt rows)) = .d (.sl sz bt rows) := by simp [upB, V.mps, D.mps, h]
theorem upB_ref (a b : Nat) : upB y r r' l (.ref a b) = .ref a b := rfl
theorem upB_own (a b n : Nat) (z : Bool) : upB y r r' l (.own a b n z) = .own a b n z := rfl
theorem upB_junk : upB y r r' l .junk = .junk := rfl
theorem upB_tup (x : Value) (z : Value) : upB y r r' l (.tup [.d (.p x), .d (.p z)]) = .tup [.d (.p x), .d (.p z)] := rfl
theorem upB_agg2 (x : Value) (z : Value) : upB y r r' l (.agg [.d (.p x), .d (.p z)]) = .agg [.d (.p x), .d (.p z)] := rfl
theorem upB_F (x : Bool) (N : Nat) (m m' : List (Value × Value)) : upB false r r' l (.mp2 x r r' N m m') = .mp2 x r r' N l m' := by simp [upB]
theorem upB_T (x : Bool) (N : Nat) (m m' : List (Value × Value)) : upB true r r' l (.mp2 x r r' N m m') = .mp2 x r r' N m l := by simp [upB]
end
section
variable {c : Cx} {s : S} {o : Oper}
theorem rd_len_map {x : Operand} {t : TypeId} {k e : TypeId} {l : List (Value × Value)} (hu : c.P.underlying t = some (.map k e)) (ho : o.op = .call { callee := .builtin .len, args := #[x], argTypes := #[t] }) (hx : s.ev x = some (.d (.mp l))) : RD c o s (.i (l.length : Int)) := fun g a w hs => by
  have hx' : ∃ b, a.eval x = .map (some b) ∧ w.heap[b]? = some (.map (ments l) l.length) := by
    have h := hs.ev hx
    generalize a.eval x = u at h
    cases h with
    | d _ _ h =>
      cases h with
      | mp _ b hq hm => exact ⟨b, rfl, hm⟩
  obtain ⟨b, hxe, hm⟩ := hx'
  refine ⟨.int .i64 (l.length : Int), .d _ _ (.p _), fun w' hb => exec_len ho ?_⟩
  have hm' : w'.heap[b]? = some (.map (ments l) l.length) := (hb.block _ (Array.getElem?_eq_some_iff.1 hm).1).trans hm
  rw [hxe]
  simp [Builtin.len_, run_underlying hu, run_getMap hm', ments_size]
end
end Go.Proofs.YtbffolmgkkknpaaDoor
