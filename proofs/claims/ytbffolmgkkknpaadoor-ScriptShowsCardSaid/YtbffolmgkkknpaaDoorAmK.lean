/- Maps: made, asked, written to; a map that is not written to any more. -/
import Derived.Test.YtbffolmgkkknpaaDoorAmH
import Derived.Test.YtbffolmgkkknpaaDoorAmP
namespace Go.Proofs.YtbffolmgkkknpaaDoor
open Go.RowKit
set_option linter.unusedSimpArgs false
set_option linter.unusedVariables false

section
variable {K : Type} [DecidableEq K]
def mfind : List (K × Int) → K → Nat → Option (Nat × Int)
  | [], _, _ => none
  | (k, v) :: l, a, i => if a = k then some (i, v) else mfind l a (i + 1)
def mget (l : List (K × Int)) (a : K) : Option Int := (mfind l a 0).map (·.2)
def mput (l : List (K × Int)) (a : K) (v : Int) : List (K × Int) := match mfind l a 0 with
  | some (i, _) => l.set i (a, v)
  | none => l ++ [(a, v)]
theorem mfind_shift (a : K) : ∀ (l : List (K × Int)) (i : Nat), mfind l a i = (mfind l a 0).map fun x => (x.1 + i, x.2)
  | [], i => rfl
  | (k, v) :: l, i => by
    simp only [mfind]
    split
    · simp
    · rw [mfind_shift a l (i + 1), mfind_shift a l (0 + 1), Option.map_map]
      congr 1
      funext x
      simp [Function.comp]; omega
theorem mfind_some {a : K} : ∀ {l : List (K × Int)} {i : Nat} {v : Int}, mfind l a 0 = some (i, v) → l[i]? = some (a, v)
  | [], i, v, h => by simp [mfind] at h
  | (k, u) :: l, i, v, h => by
    simp only [mfind] at h
    split at h
    · rename_i e
      simp only [Option.some.injEq, Prod.mk.injEq] at h
      obtain ⟨rfl, rfl⟩ := h
      simp [e]
    · rw [mfind_shift] at h
      cases h1 : mfind l a 0 with
      | none => rw [h1] at h; cases h
      | some x =>
        rw [h1] at h
        simp only [Option.map_some, Option.some.injEq, Prod.mk.injEq] at h
        obtain ⟨rfl, rfl⟩ := h
        have := mfind_some (v := x.2) (i := x.1) h1
        simpa using this
theorem mget_none {a : K} : ∀ {l : List (K × Int)}, mget l a = none ↔ ∀ x ∈ l, x.1 ≠ a
  | [] => by simp [mget, mfind]
  | (k, u) :: l => by
    have ih := mget_none (a := a) (l := l)
    simp only [mget] at ih ⊢
    simp only [mfind]
    split
    · rename_i e; simp [e]
    · rename_i e
      rw [mfind_shift]
      simp only [Option.map_map, Option.map_eq_none_iff] at ih ⊢
      rw [ih]
      simp [Ne.symm e]
theorem mget_cons (k : K) (u : Int) (l : List (K × Int)) (a : K) : mget ((k, u) :: l) a = if a = k then some u else mget l a := by
  simp only [mget, mfind]
  split
  · rfl
  · rw [mfind_shift, Option.map_map]; rfl
theorem mget_snoc {l : List (K × Int)} {k : K} {u : Int} (a : K) : mget (l ++ [(k, u)]) a = match mget l a with
  | some v => some v
  | none => if a = k then some u else none := by
  induction l with
  | nil => simp [mget_cons]; simp [mget, mfind]
  | cons x l ih =>
    obtain ⟨k', u'⟩ := x
    rw [List.cons_append, mget_cons, mget_cons, ih]
    split <;> rfl
theorem mput_new {l : List (K × Int)} {a : K} {v : Int} (h : mget l a = none) : mput l a v = l ++ [(a, v)] := by
  unfold mput
  have : mfind l a 0 = none := by simpa [mget] using h
  rw [this]
end

def mrows {K : Type} (enc : K → Value) (l : List (K × Int)) : List (Value × Value) := l.map fun x => (enc x.1, .int .i64 x.2)
/-- How keys are held against each other. -/
structure KeyOk {K : Type} [DecidableEq K] (P : Program) (k : TypeId) (enc : K → Value) : Prop where
  check : ∀ (b : Bool) (a : K) (w : World), (Instr.checkKey b 10000 k (enc a)).run P w = .ok () w
  find : ∀ (l : List (K × Int)) (a : K) (w : World), (Instr.findKey k (enc a) (ments (mrows enc l)).toList).run P w = .ok ((mfind l a 0).map fun x => (x.1, .int .i64 x.2)) w
  same : ∀ a, Instr.sameBits 10000 (enc a) (enc a) = true

theorem run_getMap {P : Program} {w : World} {r : Nat} {es : Array MapEntry} {k : Nat} (hb : w.heap[r]? = some (.map es k)) : (getObj r).run P w = .ok (.map es k) w := by simp [getObj, Sem.run, hb]
theorem run_setMap {P : Program} {w : World} {r : Nat} {es : Array MapEntry} {k : Nat} (o : Obj) (hb : w.heap[r]? = some (.map es k)) : (setObj r o).run P w = .ok () { w with heap := w.heap.setIfInBounds r o } := by simp [setObj, Sem.run, hb]
theorem findNow_int (kd : IntKind) (a : Int) : ∀ (l : List (Int × Int)) (i j : Nat), Instr.findNow (.int kd) (.int .i64 a) ((((l.map fun x => ((Value.int .i64 x.1, Value.int .i64 x.2) : Value × Value)).zipIdx j).map fun x => ({ key := x.1.1, val := x.1.2, born := x.2 } : MapEntry))) i = some ((mfind l a i).map fun x => (x.1, .int .i64 x.2))
  | [], i, j => rfl
  | (k, v) :: l, i, j => by
    simp only [List.map_cons, List.zipIdx_cons, Instr.findNow, Instr.sameNow, if_true, mfind]
    by_cases e : a = k
    · subst e; simp
    · have : (a == k) = false := by simpa using e
      simp only [this, if_neg e]
      exact findNow_int kd a l (i + 1) (j + 1)
theorem KeyOk.int {P : Program} {k : TypeId} {kd : IntKind} (hu : P.underlying k = some (.int kd)) : KeyOk P k (fun a : Int => .int .i64 a) := by
  refine ⟨fun b a w => ?_, fun l a w => ?_, fun a => ?_⟩
  · have : ∀ n : Nat, (Instr.checkKey b (n + 1) k (.int .i64 a)).run P w = .ok () w := fun n => by simp [Instr.checkKey, run_underlying hu]
    exact this 9999
  · have := findNow_int kd a l 0 0
    simp only [Instr.findKey, Sem.run_bind, run_underlying hu, Result.andThen_ok, ments, mrows, List.toList_toArray, this]
    rfl
  · have : ∀ n : Nat, Instr.sameBits n (.int .i64 a) (.int .i64 a) = true := fun n => by cases n <;> simp [Instr.sameBits]
    exact this 10000

theorem ments_push (l : List (Value × Value)) (k v : Value) : (ments l).push { key := k, val := v, born := l.length } = ments (l ++ [(k, v)]) := by
  simp [ments, List.zipIdx_append]
theorem ments_size (l : List (Value × Value)) : (ments l).size = l.length := by simp [ments]
theorem ments_get (l : List (Value × Value)) (i : Nat) : (ments l)[i]? = l[i]?.map fun x => { key := x.1, val := x.2, born := i } := by
  simp [ments, List.getElem?_zipIdx]
  cases l[i]? <;> rfl
theorem ments_modify (l : List (Value × Value)) (i : Nat) (k v : Value) (k0 v0 : Value) (h : l[i]? = some (k0, v0)) : (ments l).modify i (fun e => { e with key := k, val := v }) = ments (l.set i (k, v)) := by
  apply Array.ext_getElem?
  intro j
  rw [Array.getElem?_modify, ments_get, ments_get, List.getElem?_set]
  have hi := (List.getElem?_eq_some_iff.1 h).1
  by_cases e : i = j
  · subst e; simp [h, hi]
  · simp [e]

mutual
/-- Does a value speak of a map? -/
def D.mps : D → Bool
  | .p _ => false
  | .sl _ _ rows => D.mpsR rows
  | .mp _ => true
def D.mpsL : List D → Bool
  | [] => false
  | d :: l => D.mps d || D.mpsL l
def D.mpsR : List (List D) → Bool
  | [] => false
  | r :: l => D.mpsL r || D.mpsR l
end
mutual
def V.mps : V → Bool
  | .d x => D.mps x
  | .ad l => D.mpsL l
  | .mp _ _ _ => true
  | .mq _ _ _ => true
  | .ifc _ v => V.mps v
  | .mp2 _ _ _ _ _ _ => true
  | .it _ _ _ _ => true
  | .agg l => V.mpsL l
  | .tup l => V.mpsL l
  | .fn _ l => V.mpsL l
  | _ => false
def V.mpsL : List V → Bool
  | [] => false
  | v :: l => V.mps v || V.mpsL l
end
theorem D.mpsL_false {l : List D} (h : D.mpsL l = false) : ∀ d ∈ l, D.mps d = false := by
  induction l with
  | nil => simp
  | cons x l ih =>
    simp only [D.mpsL, Bool.or_eq_false_iff] at h
    intro d hd
    rcases List.mem_cons.1 hd with rfl | hd
    · exact h.1
    · exact ih h.2 d hd
theorem D.mpsR_false {l : List (List D)} (h : D.mpsR l = false) : ∀ d ∈ l, D.mpsL d = false := by
  induction l with
  | nil => simp
  | cons x l ih =>
    simp only [D.mpsR, Bool.or_eq_false_iff] at h
    intro d hd
    rcases List.mem_cons.1 hd with rfl | hd
    · exact h.1
    · exact ih h.2 d hd
theorem V.mpsL_false {l : List V} : V.mpsL l = false ↔ ∀ d ∈ l, V.mps d = false := by
  induction l with
  | nil => simp [V.mpsL]
  | cons x l ih => simp [V.mpsL, ih]
/-- The map r now holds l; of other maps nothing is said. -/
def upM (r : Nat) (l : List (Value × Value)) : V → V
  | .mp k N _ => if k = r then .mp k N l else .junk
  | v => if v.mps then .junk else v

section
variable {c : Cx} {s : S} {o : Oper} {g : Nat → Nat × Nat} {a : Act} {w : World} {Q : Exit → S → Prop}

theorem DRep.nomap {w w' : World} {q : Nat → Prop} {x : D} {v : Value} (h : DRep w q x v) (hsz : w.heap.size ≤ w'.heap.size) (hc : ∀ (b o : Nat) (u : Value), w.cell? ⟨b, o, none⟩ = some u → w'.cell? ⟨b, o, none⟩ = some u) : x.mps = false → DRep w' q x v := by
  induction h with
  | p x => exact fun _ => .p x
  | sl sz bt rows a cap b o f ha hl h1 hr ih =>
    intro hm
    simp only [D.mps] at hm
    refine .sl sz bt rows a cap b o f (fun hne => ?_) hl (fun i j row u h2 h3 => hc _ _ _ (h1 i j row u h2 h3)) fun i j row u h2 h3 => ih i j row u h2 h3 (D.mpsL_false (D.mpsR_false hm row (List.mem_of_getElem? h2)) u (List.mem_of_getElem? h3))
    obtain ⟨e1, e2, e3⟩ := ha hne
    exact ⟨e1, e2, Nat.lt_of_lt_of_le e3 hsz⟩
  | mp l b hb hm => exact fun h => by simp [D.mps] at h
theorem VRep.nomap {w w' : World} {q : Nat → Prop} {g : Nat → Nat × Nat} {x : V} {v : Value} (h : VRep w q g x v) (hsz : w.heap.size ≤ w'.heap.size) (hc : ∀ (b o : Nat) (u : Value), w.cell? ⟨b, o, none⟩ = some u → w'.cell? ⟨b, o, none⟩ = some u) : x.mps = false → VRep w' q g x v := by
  induction h with
  | d x v h => exact fun hm => .d x v (h.nomap hsz hc hm)
  | ad row b o f hb h1 hr => exact fun hm => .ad row b o f ⟨hb.1, Nat.lt_of_lt_of_le hb.2 hsz⟩ (fun j u hu => hc _ _ _ (h1 j u hu)) (fun j u hu => (hr j u hu).nomap hsz hc (D.mpsL_false hm u (List.mem_of_getElem? hu)))
  | ref r o => exact fun _ => .ref r o
  | own r sz n hn hcap => exact fun _ => .own r sz n hn hcap
  | ownNil r sz => exact fun _ => .ownNil r sz
  | que r sz o n a cap hn hcap h => exact fun _ => .que r sz o n a cap hn hcap h
  | agg l cs hlen h ih => exact fun hm => .agg l cs hlen fun j u c h1 h2 => ih j u c h1 h2 (V.mpsL_false.1 hm u (List.mem_of_getElem? h1))
  | tup l cs hlen h ih => exact fun hm => .tup l cs hlen fun j u c h1 h2 => ih j u c h1 h2 (V.mpsL_false.1 hm u (List.mem_of_getElem? h1))
  | fn f l cs hlen h ih => exact fun hm => .fn f l cs hlen fun j u c h1 h2 => ih j u c h1 h2 (V.mpsL_false.1 hm u (List.mem_of_getElem? h1))
  | mp r N l hN hm => exact fun h => by simp [V.mps] at h
  | mq => exact fun h => by simp [V.mps] at h
  | mp2 => exact fun h => by simp [V.mps] at h
  | it => exact fun h => by simp [V.mps] at h
  | ifc t v x h ih => exact fun hm => .ifc t v x (ih (by simpa [V.mps] using hm))
  | junk v => exact fun _ => .junk v

/-- A map is written to. -/
theorem Sim.upMap (hs : Sim c g s a w) {r : Nat} {l l' : List (Value × Value)} (hb : w.heap[(g r).1]? = some (.map (ments l) l.length)) (hN : c.w0.heap.size ≤ (g r).1) (hH : ∀ k row, fnd s.H k = some row → V.mpsL row.cells = false) (hK : V.mpsL s.K = false) :
    Sim c g ⟨s.n, s.T.map (fun x => (x.1, upM r l' x.2)), s.H, s.K⟩ a { w with heap := w.heap.setIfInBounds (g r).1 (.map (ments l') l'.length) } := by
  have hlt : (g r).1 < w.heap.size := (Array.getElem?_eq_some_iff.1 hb).1
  obtain ⟨w', hw'⟩ : ∃ w', w' = { w with heap := w.heap.setIfInBounds (g r).1 (.map (ments l') l'.length) } := ⟨_, rfl⟩
  have hsz : w'.heap.size = w.heap.size := by rw [hw']; simp
  have hoth : ∀ b, b ≠ (g r).1 → w'.heap[b]? = w.heap[b]? := fun b hne => by rw [hw']; simp [Array.getElem?_setIfInBounds_ne (Ne.symm hne)]
  have hnew : w'.heap[(g r).1]? = some (.map (ments l') l'.length) := by rw [hw']; simp [hlt]
  have hc : ∀ (b o : Nat) (u : Value), w.cell? ⟨b, o, none⟩ = some u → w'.cell? ⟨b, o, none⟩ = some u := by
    intro b o u h
    by_cases e : b = (g r).1
    · subst e
      simp [World.cell?, hb] at h
    · exact (World.cell?_of_block (w := w) (a := ⟨b, o, none⟩) (hoth b e)).trans h
  have hm : ∀ {v x}, v.mps = false → VRep w (qt c s.H g) g v x → VRep w' (qt c s.H g) g v x := fun hv h => h.nomap (by omega) hc hv
  rw [← hw']
  refine ⟨hs.size, hs.defers, ?_, hs.nul, ?_, ?_, hs.inj, hs.base, hs.low, ?_⟩
  · intro i v hv
    simp only at hv
    rw [fnd_map] at hv
    cases hu : fnd s.T i with
    | none => rw [hu] at hv; cases hv
    | some u =>
      rw [hu] at hv
      simp only [Option.map_some, Option.some.injEq] at hv
      obtain ⟨x, h1, h2⟩ := hs.tmp i u hu
      refine ⟨x, h1, ?_⟩
      subst hv
      have hgen : ∀ u : V, VRep w (qt c s.H g) g u x → VRep w' (qt c s.H g) g (if u.mps then .junk else u) x := by
        intro u h2
        split
        · exact .junk _
        · rename_i hne; exact hm (by simpa using hne) h2
      cases u with
      | mp k N l0 =>
        simp only [upM]
        split
        · rename_i e
          subst e
          cases h2 with
          | mp _ _ _ h3 h4 => exact .mp _ _ _ h3 hnew
        · exact .junk _
      | d _ => exact hgen _ h2
      | ad _ => exact hgen _ h2
      | ref _ _ => exact hgen _ h2
      | own _ _ _ _ => exact hgen _ h2
      | que _ _ _ _ => exact hgen _ h2
      | agg _ => exact hgen _ h2
      | tup _ => exact hgen _ h2
      | fn _ _ => exact hgen _ h2
      | mq _ _ _ => exact hgen _ h2
      | ifc _ _ => exact hgen _ h2
      | mp2 _ _ _ _ _ _ => exact hgen _ h2
      | it _ _ _ _ => exact hgen _ h2
      | junk => exact .junk _
  · intro k row hk hn
    obtain ⟨arr, h1, h2, h3⟩ := hs.obj k row hk hn
    refine ⟨arr, (hoth _ fun e => ?_).trans h1, h2, fun j v hv => ?_⟩
    · rw [e, hb] at h1; cases h1
    · obtain ⟨x, h4, h5⟩ := h3 j v hv
      exact ⟨x, h4, hm (V.mpsL_false.1 (hH k row hk) v (List.mem_of_getElem? hv)) h5⟩
  · intro j v x h1 h2
    exact hm (V.mpsL_false.1 hK v (List.mem_of_getElem? h1)) (hs.keep j v x h1 h2)
  · refine hs.below.trans ⟨by rw [hw'], by rw [hw'], by rw [hw'], by omega, fun k hk => hoth k ?_⟩
    omega

/-- A name that nothing speaks of may stand for anything. -/
theorem Sim.regauge (h : Sim c g s a w) {r : Nat} (hr : s.clean r = true) (p : Nat × Nat) : Sim c (fun k => if k = r then p else g k) s a w := by
  have hfr : ∀ k row', fnd s.H k = some row' → k ≠ r := fun k row' hk => (S.clean_obj hr hk).1
  have hg : ∀ k row', fnd s.H k = some row' → (if k = r then p else g k) = g k := fun k row' hk => if_neg (hfr k row' hk)
  have hq : ∀ b, qt c s.H g b → b < w.heap.size → qt c s.H (fun k => if k = r then p else g k) b := fun b hb _ => ⟨hb.1, fun k row' hk hn => by show (if k = r then p else g k).1 ≠ b; rw [hg k row' hk]; exact hb.2 k row' hk hn⟩
  have hm : ∀ v x, v.has r = false → VRep w (qt c s.H g) g v x → VRep w (qt c s.H (fun k => if k = r then p else g k)) (fun k => if k = r then p else g k) v x := fun v x hv hx => hx.mono Cells.rfl hq fun k hk => by
    have e : k ≠ r := by rintro rfl; rw [hv] at hk; cases hk
    simp [e]
  refine ⟨h.size, h.defers, ?_, h.nul, ?_, ?_, ?_, ?_, h.low, h.below⟩
  · intro i v hv
    obtain ⟨x, h1, h2⟩ := h.tmp i v hv
    exact ⟨x, h1, hm v x (S.clean_tmp hr hv) h2⟩
  · intro k row' hk hn
    obtain ⟨arr, h1, hz, h2⟩ := h.obj k row' hk hn
    simp only [hg k row' hk]
    refine ⟨arr, h1, hz, fun j v hv => ?_⟩
    obtain ⟨x, h3, h4⟩ := h2 j v hv
    exact ⟨x, h3, hm v x ((S.clean_obj hr hk).2 v (List.mem_of_getElem? hv)) h4⟩
  · intro j v x h1 h2
    exact hm v x (S.clean_keep hr h1) (h.keep j v x h1 h2)
  · intro k k' row1 row2 h1 n1 h2 n2 h3
    simp only [hg k row1 h1, hg k' row2 h2] at h3
    exact h.inj k k' _ _ h1 n1 h2 n2 h3
  · intro k row' hk hn
    simp only [hg k row' hk]
    exact h.base k _ hk hn
theorem sm_makeMap (r : Nat) {t : TypeId} (ho : o.op = .makeMap t none) (hr : s.clean r = true) (hd : dok s o = true) : StepM c o s (fun s' => s' = s.put o.dst (.mp r c.w0.heap.size [])) := by
  intro g a w hs K Q hK
  have hb : Below w.heap.size w (w.alloc (.map #[] 0)) := (Below.refl _ _).alloc (Nat.le_refl _) _
  have h1 := (hs.move hb).regauge hr (w.heap.size, 0)
  unfold Oper.wp
  have hexec : (execOp a.eval o).run c.P w = .ok (.value (.map (some w.heap.size))) (w.alloc (.map #[] 0)) := by
    simp [execOp, ho, Instr.makeMap]
  rw [hexec]
  refine hK _ _ _ _ rfl (h1.put o.dst (dok_spec hd) ?_) hb
  have := VRep.mp (w := w.alloc (.map #[] 0)) (q := qt c s.H (fun k => if k = r then (w.heap.size, 0) else g k)) (g := fun k => if k = r then (w.heap.size, 0) else g k) r c.w0.heap.size [] (by simp; exact hs.below.size) (by simp only [if_true]; exact heap_alloc_new w _)
  simpa using this

section
variable {K : Type} [DecidableEq K] {enc : K → Value}
theorem run_lookup {P : Program} {t k e : TypeId} {bt b : Nat} {l : List (K × Int)} {key : K} {ok : Bool} {w : World} (hk : KeyOk P k enc) (hu : P.underlying t = some (.map k e)) (hi : Inf P e 1 bt (.int .i64 0)) (hb : w.heap[b]? = some (.map (ments (mrows enc l)) (mrows enc l).length)) :
    (Instr.lookup t (.map (some b)) (enc key) ok).run P w = .ok (if ok then .tuple #[.int .i64 ((mget l key).getD 0), .bool (mget l key).isSome] else .int .i64 ((mget l key).getD 0)) w := by
  simp only [Instr.lookup, Sem.run_bind, run_underlying hu, Result.andThen_ok, run_getMap hb, Sem.run_pure, hk.check, hk.find]
  unfold mget
  cases h : mfind l key 0 with
  | none => cases ok <;> simp [run_zeroValue hi]
  | some x => cases ok <;> simp
theorem rd_lookup {t k e : TypeId} {bt : Nat} {x y : Operand} {ok : Bool} {r N : Nat} {l : List (K × Int)} {key : K} {v : V} (hk : KeyOk c.P k enc) (hu : c.P.underlying t = some (.map k e)) (hi : Inf c.P e 1 bt (.int .i64 0)) (ho : o.op = .lookup t x y ok) (hx : s.ev x = some (.mp r N (mrows enc l)) ∨ s.ev x = some (.d (.mp (mrows enc l)))) (hy : ∀ g a w, Sim c g s a w → a.eval y = enc key)
    (hv : v = if ok then .tup [.i ((mget l key).getD 0), .b (mget l key).isSome] else .i ((mget l key).getD 0)) : RD c o s v := fun g a w hs => by
  have hx' : ∃ b, a.eval x = .map (some b) ∧ w.heap[b]? = some (.map (ments (mrows enc l)) (mrows enc l).length) := by
    rcases hx with hx | hx
    · have h := hs.ev hx
      generalize a.eval x = u at h
      cases h with
      | mp _ _ _ hN hm => exact ⟨_, rfl, hm⟩
    · have h := hs.ev hx
      generalize a.eval x = u at h
      cases h with
      | d _ _ h =>
        cases h with
        | mp _ b hq hm => exact ⟨b, rfl, hm⟩
  obtain ⟨b, hxe, hm⟩ := hx'
  subst hv
  refine ⟨if ok then .tuple #[.int .i64 ((mget l key).getD 0), .bool (mget l key).isSome] else .int .i64 ((mget l key).getD 0), ?_, fun w' hb => ?_⟩
  · cases ok
    · exact .d _ _ (.p _)
    · refine .tup [.i ((mget l key).getD 0), .b (mget l key).isSome] [.int .i64 ((mget l key).getD 0), .bool (mget l key).isSome] rfl fun j u z hu hz => ?_
      match j, hu, hz with
      | 0, hu, hz => simp at hu hz; subst hu hz; exact .d _ _ (.p _)
      | 1, hu, hz => simp at hu hz; subst hu hz; exact .d _ _ (.p _)
      | n + 2, hu, hz => simp at hu
  · have := run_lookup (ok := ok) (key := key) hk hu hi ((hb.block _ (Array.getElem?_eq_some_iff.1 hm).1).trans hm)
    simp only [execOp, ho, hxe, hy g a w hs, Sem.run_bind, this, Result.andThen_ok]
    rfl
theorem st_mapUpdate {t k e : TypeId} {x y z : Operand} {r N : Nat} {l : List (K × Int)} {key : K} {v : Int} (hk : KeyOk c.P k enc) (hu : c.P.underlying t = some (.map k e)) (ho : o.op = .mapUpdate t x y z) (hd : o.dst = none) (hx : s.ev x = some (.mp r N (mrows enc l))) (hy : ∀ g a w, Sim c g s a w → a.eval y = enc key) (hz : s.ev z = some (.i v))
    (hN : N = c.w0.heap.size) (hH : s.H.all (fun x => !V.mpsL x.2.cells) = true) (hK : V.mpsL s.K = false) : Step c o s (fun s' => s' = ⟨s.n, s.T.map (fun x => (x.1, upM r (mrows enc (mput l key v)) x.2)), s.H, s.K⟩) := by
  subst hN
  intro g a w hs K' Q hK'
  have hx' : a.eval x = .map (some (g r).1) ∧ c.w0.heap.size ≤ (g r).1 ∧ w.heap[(g r).1]? = some (.map (ments (mrows enc l)) (mrows enc l).length) := by
    have h := hs.ev hx
    generalize a.eval x = u at h
    cases h with
    | mp _ _ _ hN hm => exact ⟨rfl, hN, hm⟩
  obtain ⟨hxe, hNb, hm⟩ := hx'
  have hrun : (Instr.mapUpdate t (.map (some (g r).1)) (enc key) (.int .i64 v)).run c.P w = .ok () { w with heap := w.heap.setIfInBounds (g r).1 (.map (ments (mrows enc (mput l key v))) (mrows enc (mput l key v)).length) } := by
    simp only [Instr.mapUpdate, Sem.run_bind, run_underlying hu, Result.andThen_ok, run_getMap hm, hk.check, hk.find]
    unfold mput
    cases h : mfind l key 0 with
    | none =>
      simp only [Option.map_none, run_setMap _ hm, ments_push]
      simp [mrows]
    | some p =>
      obtain ⟨i, v0⟩ := p
      have hget : (mrows enc l)[i]? = some (enc key, .int .i64 v0) := by simp [mrows, mfind_some h]
      have hk0 : (((ments (mrows enc l))[i]?).map (·.key)).getD (enc key) = enc key := by rw [ments_get, hget]; rfl
      simp only [Option.map_some, hk0, Instr.keyThatStays, hk.same, if_true, Sem.run_bind, Sem.run_pure, Result.andThen_ok, run_setMap _ hm, ments_modify _ _ _ _ _ _ hget]
      simp [mrows, List.map_set]
  unfold Oper.wp
  have hexec : (execOp a.eval o).run c.P w = .ok .skip { w with heap := w.heap.setIfInBounds (g r).1 (.map (ments (mrows enc (mput l key v))) (mrows enc (mput l key v)).length) } := by
    simp only [execOp, ho, hxe, hy g a w hs, VRep.p_eq (hs.ev hz), Sem.run_bind, hrun, Result.andThen_ok]
    rfl
  rw [hexec]
  simp only [Oper.upon, hd, Act.put]
  refine hK' g _ a _ rfl (hs.upMap hm hNb (fun k row hk => ?_) hK)
  have := List.all_eq_true.1 hH _ (fnd_mem hk)
  simpa using this
end
/-- A map that is not written to any more. -/
theorem AW.freezeM {code : Code} (t : Nat) {r N : Nat} {l : List (Value × Value)} (ht : fnd s.T t = some (.mp r N l)) (hN : N = c.w0.heap.size) (h : AW c code Q ⟨s.n, (t, .d (.mp l)) :: s.T, s.H, s.K⟩) : AW c code Q s := by
  subst hN
  intro g a w hs
  refine h g a w ⟨hs.size, hs.defers, ?_, hs.nul, hs.obj, hs.keep, hs.inj, hs.base, hs.low, hs.below⟩
  intro i v hv
  simp only [fnd] at hv
  split at hv
  · rename_i e
    simp only [beq_iff_eq] at e
    subst e
    simp only [Option.some.injEq] at hv
    subst hv
    obtain ⟨x, h1, h2⟩ := hs.tmp _ _ ht
    refine ⟨x, h1, ?_⟩
    cases h2 with
    | mp _ _ _ hN hm =>
      refine .d _ _ (.mp l _ ⟨⟨fun ho => ?_, fun k row hk hn e => ?_⟩, (Array.getElem?_eq_some_iff.1 hm).1⟩ hm)
      · have := hs.low _ ho
        omega
      · obtain ⟨arr, h3, _⟩ := hs.obj k row hk hn
        rw [e, hm] at h3
        cases h3
  · exact hs.tmp i v hv
/-- A box becomes plain data. -/
theorem AW.freezeRef {code : Code} (t r : Nat) (l : List D) {row : Row} (ht : fnd s.T t = some (.ref r 0)) (hr : fnd s.H r = some row) (hn : row.nil = false) (hl : row.cells = l.map V.d) (h : AW c code Q ⟨s.n, (t, .ad l) :: s.T, s.H.filter (fun x => x.1 != r), s.K⟩) : AW c code Q s := by
  intro g a w hs
  refine h g a w ?_
  have hfn : ∀ k row', fnd (s.H.filter (fun x => x.1 != r)) k = some row' → k ≠ r ∧ fnd s.H k = some row' := by
    intro k row' hk
    have e : k ≠ r := by rintro rfl; rw [fnd_filter_self] at hk; cases hk
    rw [fnd_filter r _ _ e] at hk
    exact ⟨e, hk⟩
  have hq : ∀ b, qt c s.H g b → b < w.heap.size → qt c (s.H.filter (fun x => x.1 != r)) g b := fun b hb _ => ⟨hb.1, fun k row' hk hn => hb.2 k row' (hfn k row' hk).2 hn⟩
  have hm : ∀ {v x}, VRep w (qt c s.H g) g v x → VRep w (qt c (s.H.filter (fun x => x.1 != r)) g) g v x := fun hv => hv.mono Cells.rfl hq (fun _ _ => rfl)
  refine ⟨hs.size, hs.defers, ?_, ?_, ?_, ?_, ?_, ?_, hs.low, hs.below⟩
  · intro i v hv
    simp only [fnd] at hv
    split at hv
    · rename_i e
      simp only [beq_iff_eq] at e
      subst e
      simp only [Option.some.injEq] at hv
      subst hv
      obtain ⟨x, h1, h2⟩ := hs.tmp _ _ ht
      refine ⟨x, h1, ?_⟩
      cases h2
      obtain ⟨arr, h3, _, h4⟩ := hs.obj r row hr hn
      have hat : ∀ (j : Nat) (u : D), l[j]? = some u → row.cells[j]? = some (.d u) := fun j u hu => by rw [hl]; simp [hu]
      have hob : ¬ c.out (g r).1 := fun h => by
        have h5 := hs.low _ h
        have h6 := hs.base r row hr hn
        omega
      refine .ad l (g r).1 0 (fun j => arr.getD j undef) ⟨⟨hob, fun k row' hk hkn e => ?_⟩, (Array.getElem?_eq_some_iff.1 h3).1⟩ (fun j u hu => ?_) (fun j u hu => ?_)
      · obtain ⟨k1, k2⟩ := hfn k row' hk
        exact k1 (hs.inj k r _ _ k2 hkn hr hn e)
      · obtain ⟨y, h5, _⟩ := h4 _ _ (hat j u hu)
        rw [Nat.zero_add, cell_of_row w _ _ _ _ _ h3, h5]
        simp [Array.getD_eq_getD_getElem?, h5]
      · obtain ⟨y, h5, h6⟩ := h4 _ _ (hat j u hu)
        cases hm h6 with
        | d _ _ h7 => simpa [Array.getD_eq_getD_getElem?, h5] using h7
    · obtain ⟨x, h1, h2⟩ := hs.tmp i v hv
      exact ⟨x, h1, hm h2⟩
  · intro k row' hk hn
    exact hs.nul k row' (hfn k row' hk).2 hn
  · intro k row' hk hn
    obtain ⟨arr, h1, h2, h3⟩ := hs.obj k row' (hfn k row' hk).2 hn
    refine ⟨arr, h1, h2, fun j v hv => ?_⟩
    obtain ⟨x, h4, h5⟩ := h3 j v hv
    exact ⟨x, h4, hm h5⟩
  · intro j v x h1 h2
    exact hm (hs.keep j v x h1 h2)
  · intro k k' row row' h1 n1 h2 n2 h3
    exact hs.inj k k' row row' (hfn k row h1).2 n1 (hfn k' row' h2).2 n2 h3
  · intro k row h1 n1
    exact hs.base k row (hfn k row h1).2 n1

section
variable {K : Type} [DecidableEq K] {enc : K → Value}
theorem rd_lookup_hit {t k e : TypeId} {bt : Nat} {x y : Operand} {r N : Nat} {l : List (K × Int)} {key : K} {v : Int} (hk : KeyOk c.P k enc) (hu : c.P.underlying t = some (.map k e)) (hi : Inf c.P e 1 bt (.int .i64 0)) (ho : o.op = .lookup t x y true) (hx : s.ev x = some (.mp r N (mrows enc l)) ∨ s.ev x = some (.d (.mp (mrows enc l)))) (hy : ∀ g a w, Sim c g s a w → a.eval y = enc key)
    (hv : mget l key = some v) : RD c o s (.tup [.i v, .b true]) := rd_lookup (ok := true) hk hu hi ho hx hy (by rw [hv]; rfl)
theorem rd_lookup_miss {t k e : TypeId} {bt : Nat} {x y : Operand} {r N : Nat} {l : List (K × Int)} {key : K} (hk : KeyOk c.P k enc) (hu : c.P.underlying t = some (.map k e)) (hi : Inf c.P e 1 bt (.int .i64 0)) (ho : o.op = .lookup t x y true) (hx : s.ev x = some (.mp r N (mrows enc l)) ∨ s.ev x = some (.d (.mp (mrows enc l)))) (hy : ∀ g a w, Sim c g s a w → a.eval y = enc key)
    (hv : mget l key = none) : RD c o s (.tup [.i 0, .b false]) := rd_lookup (ok := true) hk hu hi ho hx hy (by rw [hv]; rfl)
end
end
abbrev imap (l : List (Int × Int)) : List (Value × Value) := mrows (fun a : Int => Value.int .i64 a) l
section
variable (r : Nat) (l : List (Value × Value))
theorem upM_p (x : Value) : upM r l (.d (.p x)) = .d (.p x) := rfl
theorem upM_sl (sz bt : Nat) (rows : List (List D)) (h : D.mpsR rows = false) : upM r l (.d (.sl sz bt rows)) = .d (.sl sz bt rows) := by simp [upM, V.mps, D.mps, h]
theorem upM_ref (a b : Nat) : upM r l (.ref a b) = .ref a b := rfl
theorem upM_own (a b n : Nat) (z : Bool) : upM r l (.own a b n z) = .own a b n z := rfl
theorem upM_mp (N : Nat) (l0 : List (Value × Value)) : upM r l (.mp r N l0) = .mp r N l := by simp [upM]
theorem upM_junk : upM r l .junk = .junk := rfl
theorem upM_tup (x : Value) (y : Value) : upM r l (.tup [.d (.p x), .d (.p y)]) = .tup [.d (.p x), .d (.p y)] := rfl
theorem mpsR_map {α : Type} (f : α → List D) (hf : ∀ x, D.mpsL (f x) = false) : ∀ l : List α, D.mpsR (l.map f) = false
  | [] => rfl
  | x :: l => by rw [List.map_cons, D.mpsR, hf x, mpsR_map f hf l]; rfl
theorem mpsL_flat {α : Type} (f : α → List V) (hf : ∀ x, V.mpsL (f x) = false) : ∀ l : List α, V.mpsL (l.flatMap f) = false
  | [] => rfl
  | x :: l => by
    rw [List.flatMap_cons, V.mpsL_false]
    intro v hv
    rcases List.mem_append.1 hv with h | h
    · exact V.mpsL_false.1 (hf x) v h
    · exact V.mpsL_false.1 (mpsL_flat f hf l) v h
theorem mpsR_ars (l : List Ar) : D.mpsR (l.map arD) = false := mpsR_map _ (fun _ => rfl) l
theorem mpsR_sts (l : List St) : D.mpsR (l.map stD) = false := mpsR_map _ (fun x => by simp [stD, D.mpsL, D.mps, mpsR_ars]) l
end
end Go.Proofs.YtbffolmgkkknpaaDoor
