/- Part 14 of what the law SameSames rests on. -/
import Derived.Laws.IdiomRangeMap
import Derived.Lib.UnsafeStr
import Derived.Test.YthiknkcigcglkaaGreatDoorPkSS11
namespace Go.Proofs.YthiknkcigcglkaaGreatDoor
open Go.RowKit
open Bool (and_eq_true false_eq_true)
open List (all_cons all_eq_true append_nil cons_append ext_getElem? filter_cons flatMap_cons map_cons map_nil map_set map_toArray mem_of_getElem? not_mem_nil zipIdx_cons)
open Nat (le_refl lt_of_lt_of_le)
open Option (map_none map_some)
set_option linter.unusedSimpArgs false
set_option linter.unusedVariables false
set_option maxRecDepth 100000
set_option maxHeartbeats 8000000
variable {n' u : Int} {N b bt j k rm : Nat} {w' w1 : World} {q : Nat → Prop} {kv : Value × Value} {f : FuncId} {rs : List ResultVar} {H H0 : List (Nat × Row)}
section
variable {K : Type} [DecidableEq K]
def xQ : List (K × Int) → K → Nat → Option (Nat × Int)
  | [], _, _ => none
  | (k, v) :: l, a, i => if a = k then some (i, v) else xQ l a (i + 1)
def zK (l : List (K × Int)) (a : K) : Option Int := (xQ l a 0).map (·.2)
def vB (l : List (K × Int)) (a : K) (v : Int) : List (K × Int) := match xQ l a 0 with
  | some (i, _) => l.set i (a, v)
  | none => l ++ [(a, v)]
theorem uH (a : K) : ∀ (l : List (K × Int)) (i : Nat), xQ l a i = (xQ l a 0).map fun x => (x.1 + i, x.2)
  | [], i => rfl
  | (k, v) :: l, i => by
    simp only [xQ]
    split
    · simp
    rw [uH a l (i + 1), uH a l (0 + 1), Option.map_map]
    congr 1
    funext x
    simp [Function.comp]; omega
theorem ub {a : K} : ∀ {l : List (K × Int)} {i : Nat} {v : Int}, xQ l a 0 = some (i, v) → l[i]? = some (a, v)
  | [], i, v, h => by simp [xQ] at h
  | (k, u) :: l, i, v, h => by
    simp only [xQ] at h
    split at h
    · grind
    rw [uH] at h
    cases h1 : xQ l a 0 with
    | none => rw [h1] at h; cases h
    | some x =>
      rw [h1] at h; simp only [map_some, Option.some.injEq, Prod.mk.injEq] at h; obtain ⟨rfl, rfl⟩ := h; have := ub (v := x.2) (i := x.1) h1
      simpa using this
theorem qm4 {a : K} : ∀ {l : List (K × Int)}, zK l a = none ↔ ∀ x ∈ l, x.1 ≠ a
  | [] => by simp [zK, xQ]
  | (k, u) :: l => by
    have ih := qm4 (a := a) (l := l); simp only [zK] at ih ⊢; simp only [xQ]
    split
    · rename_i e; simp [e]
    rename_i e
    rw [uH]; simp only [Option.map_map, Option.map_eq_none_iff] at ih ⊢; rw [ih]; simp [Ne.symm e]
theorem yF (k : K) (u : Int) (l : List (K × Int)) (a : K) : zK ((k, u) :: l) a = if a = k then some u else zK l a := by
  simp only [zK, xQ]
  split
  · rfl
  rw [uH, Option.map_map]; rfl
theorem jj0 {l : List (K × Int)} {k : K} (a : K) : zK (l ++ [(k, u)]) a = match zK l a with
  | some v => some v
  | none => if a = k then some u else none := by
  induction l with
  | nil => simp [yF]; simp [zK, xQ]
  | cons x l ih =>
    obtain ⟨k', u'⟩ := x; rw [cons_append, yF, yF, ih]
    split <;> rfl
theorem ju2 {l : List (K × Int)} {a : K} {v : Int} (h : zK l a = none) : vB l a v = l ++ [(a, v)] := by grind [vB, xQ, zK]
end
def zu {K : Type} (enc : K → Value) (l : List (K × Int)) : List (Value × Value) := l.map fun x => (enc x.1, .int .i64 x.2)
structure KeyOk {K : Type} [DecidableEq K] (P : Program) (k : TypeId) (enc : K → Value) : Prop where
  check : ∀ (b : Bool) (a : K) (w : World), (Instr.checkKey b 10000 k (enc a)).run P w = .ok () w
  find : ∀ (l : List (K × Int)) (a : K) (w : World), (Instr.findKey k (enc a) (zB (zu enc l)).toList).run P w = .ok ((xQ l a 0).map fun x => (x.1, .int .i64 x.2)) w
  same : ∀ a, Instr.sameBits 10000 (enc a) (enc a) = true
theorem wS {P : Program} {w : World} {r : Nat} {es : Array MapEntry} (hb : w.heap[r]? = some (.map es k)) : (getObj r).run P w = .ok (.map es k) w := by simp [getObj, Sem.run, hb]
theorem yd {P : Program} {w : World} {r : Nat} {es : Array MapEntry} (o : Obj) (hb : w.heap[r]? = some (.map es k)) : (setObj r o).run P w = .ok () { w with heap := w.heap.setIfInBounds r o } := by simp [setObj, Sem.run, hb]
theorem qr1 (kd : IntKind) (a : Int) : ∀ (l : List (Int × Int)) (i j : Nat), Instr.findNow (.int kd) (.int .i64 a) ((((l.map fun x => ((Value.int .i64 x.1, Value.int .i64 x.2) : Value × Value)).zipIdx j).map fun x => ({ key := x.1.1, val := x.1.2, born := x.2 } : MapEntry))) i = some ((xQ l a i).map fun x => (x.1, .int .i64 x.2))
  | [], i, j => rfl
  | (k, v) :: l, i, j => by
    simp only [map_cons, zipIdx_cons, Instr.findNow, Instr.sameNow, if_true, xQ]
    by_cases e : a = k
    · subst e; simp
    have : (a == k) = false := by simpa using e
    simp only [this, if_neg e]; exact qr1 kd a l (i + 1) (j + 1)
theorem KeyOk.int {P : Program} {k : TypeId} {kd : IntKind} (hu : P.underlying k = some (.int kd)) : KeyOk P k (fun a : Int => .int .i64 a) := by
  refine ⟨fun b a w => ?_, fun l a w => ?_, fun a => ?_⟩
  · have : ∀ n : Nat, (Instr.checkKey b (n + 1) k (.int .i64 a)).run P w = .ok () w := fun n => by simp [Instr.checkKey, run_underlying hu]
    exact this 9999
  · have := qr1 kd a l 0 0
    simp only [Instr.findKey, Sem.run_bind, run_underlying hu, Result.andThen_ok, zB, zu, List.toList_toArray, this]; rfl
  have : ∀ n : Nat, Instr.sameBits n (.int .i64 a) (.int .i64 a) = true := fun n => by cases n <;> simp [Instr.sameBits]
  exact this 10000
theorem gc (l : List (Value × Value)) (k v : Value) : (zB l).push { key := k, val := v, born := l.length } = zB (l ++ [(k, v)]) := by
  simp [zB, List.zipIdx_append]
theorem qg3 (l : List (Value × Value)) : (zB l).size = l.length := by simp [zB]
theorem wF (l : List (Value × Value)) (i : Nat) : (zB l)[i]? = l[i]?.map fun x => { key := x.1, val := x.2, born := i } := by
  simp [zB, List.getElem?_zipIdx]
  cases l[i]? <;> rfl
theorem q69 (l : List (Value × Value)) (i : Nat) (k v : Value) (k0 v0 : Value) (h : l[i]? = some (k0, v0)) : (zB l).modify i (fun e => { e with key := k, val := v }) = zB (l.set i (k, v)) := by
  apply Array.ext_getElem?; intro j; rw [Array.getElem?_modify, wF, wF, List.getElem?_set]; have hi := (List.getElem?_eq_some_iff.1 h).1
  by_cases e : i = j
  · subst e; simp [h, hi]
  simp [e]
mutual
def D.mps : D → Bool
  | .p _ => false
  | .sl _ _ rows => D.mpsR rows
  | .mp _ => true
  | .mm _ => true
def D.mpsL : List D → Bool
  | [] => false
  | d :: l => D.mps d || D.mpsL l
def D.mpsR : List (List D) → Bool
  | [] => false
  | r :: l => D.mpsL r || D.mpsR l
end
mutual
def V.mps : V → Bool
  | .d x => D.mps x
  | .ad l => D.mpsL l
  | .mp _ _ _ => true
  | .mq _ _ _ => true
  | .ifc _ v => V.mps v
  | .mp2 _ _ _ _ _ _ => true
  | .it _ _ _ _ => true
  | .mit _ _ _ _ _ => true
  | .mm _ _ _ => true
  | .blk _ _ _ => true
  | .agg l => V.mpsL l
  | .tup l => V.mpsL l
  | .fn _ l => V.mpsL l
  | _ => false
def V.mpsL : List V → Bool
  | [] => false
  | v :: l => V.mps v || V.mpsL l
end
theorem D.mpsL_false {l : List D} (h : D.mpsL l = false) : ∀ d ∈ l, D.mps d = false := by
  induction l with
  | nil => simp
  | cons x l ih =>
    simp only [D.mpsL, Bool.or_eq_false_iff] at h; intro d hd
    rcases List.mem_cons.1 hd with rfl | hd
    · exact h.1
    exact ih h.2 d hd
theorem D.mpsR_false {l : List (List D)} (h : D.mpsR l = false) : ∀ d ∈ l, D.mpsL d = false := by
  induction l with
  | nil => simp
  | cons x l ih =>
    simp only [D.mpsR, Bool.or_eq_false_iff] at h; intro d hd
    rcases List.mem_cons.1 hd with rfl | hd
    · exact h.1
    exact ih h.2 d hd
theorem V.mpsL_false {l : List V} : V.mpsL l = false ↔ ∀ d ∈ l, V.mps d = false := by
  induction l with
  | nil => simp [V.mpsL]
  | cons x l ih => simp [V.mpsL, ih]
def upM (r : Nat) (l : List (Value × Value)) : V → V
  | .mp k N _ => if k = r then .mp k N l else .junk
  | v => if v.mps then .junk else v
section
variable {c : Cx} {s : S} {o : Oper} {g : Nat → Nat × Nat} {a : Act} {w : World} {Q : Exit → S → Prop}
theorem DRep.nomap {w : World} {x : D} {v : Value} (h : DRep w q x v) (xz : w.heap.size ≤ w'.heap.size) (hc : ∀ (b o : Nat) (u : Value), w.cell? ⟨b, o, none⟩ = some u → w'.cell? ⟨b, o, none⟩ = some u) : x.mps = false → DRep w' q x v := by
  induction h with
  | p x => exact fun _ => .p x
  | sl sz bt rows a cap b o f hcp ha hl h1 hr ih =>
    intro hm; simp only [D.mps] at hm; refine .sl sz bt rows a cap b o f hcp (fun zT => ?_) hl (fun i j row u h2 h3 => hc _ _ _ (h1 i j row u h2 h3)) fun i j row u h2 h3 => ih i j row u h2 h3 (D.mpsL_false (D.mpsR_false hm row (mem_of_getElem? h2)) u (mem_of_getElem? h3)); obtain ⟨e1, e2, e3⟩ := ha zT; exact ⟨e1, e2, lt_of_lt_of_le e3 xz⟩
  | mp l b hb hm => exact fun h => by simp [D.mps] at h
  | mm => exact fun h => by simp [D.mps] at h
theorem VRep.nomap {w w' : World} {q : Nat → Prop} {g : Nat → Nat × Nat} {x : V} {v : Value} (h : VRep w q g x v) (xz : w.heap.size ≤ w'.heap.size) (hc : ∀ (b o : Nat) (u : Value), w.cell? ⟨b, o, none⟩ = some u → w'.cell? ⟨b, o, none⟩ = some u) : x.mps = false → VRep w' q g x v := by
  induction h with
  | d x v h => exact fun hm => .d x v (h.nomap xz hc hm)
  | ad row b o f hb h1 hr => exact fun hm => .ad row b o f ⟨hb.1, lt_of_lt_of_le hb.2 xz⟩ (fun j u hu => hc _ _ _ (h1 j u hu)) (fun j u hu => (hr j u hu).nomap xz hc (D.mpsL_false hm u (mem_of_getElem? hu)))
  | ref r o => exact fun _ => .ref r o
  | own r sz n hn vK => exact fun _ => .own r sz n hn vK
  | ownNil r sz => exact fun _ => .ownNil r sz
  | que r sz o n a cap hn vK h => exact fun _ => .que r sz o n a cap hn vK h
  | agg l cs zI h ih => exact fun hm => .agg l cs zI fun j u c h1 h2 => ih j u c h1 h2 (V.mpsL_false.1 hm u (mem_of_getElem? h1))
  | tup l cs zI h ih => exact fun hm => .tup l cs zI fun j u c h1 h2 => ih j u c h1 h2 (V.mpsL_false.1 hm u (mem_of_getElem? h1))
  | fn f l cs zI h ih => exact fun hm => .fn f l cs zI fun j u c h1 h2 => ih j u c h1 h2 (V.mpsL_false.1 hm u (mem_of_getElem? h1))
  | mp r N l hN hm => exact fun h => by simp [V.mps] at h
  | mq => exact fun h => by simp [V.mps] at h
  | mp2 => exact fun h => by simp [V.mps] at h
  | it => exact fun h => by simp [V.mps] at h
  | mit => exact fun h => by simp [V.mps] at h
  | mm => exact fun h => by simp [V.mps] at h
  | blk => exact fun h => by simp [V.mps] at h
  | ifc t v x h ih => exact fun hm => .ifc t v x (ih (by simpa [V.mps] using hm))
  | junk v => exact fun _ => .junk v
theorem Sim.upMap (hs : Sim c g s a w) {r : Nat} {l l' : List (Value × Value)} (hb : w.heap[(g r).1]? = some (.map (zB l) l.length)) (hN : c.w0.heap.size ≤ (g r).1) (hH : ∀ k row, fnd s.H k = some row → V.mpsL row.cells = false) (hK : V.mpsL s.K = false) :
    Sim c g ⟨s.n, s.T.map (fun x => (x.1, upM r l' x.2)), s.H, s.K⟩ a { w with heap := w.heap.setIfInBounds (g r).1 (.map (zB l') l'.length) } := by
  have zk : (g r).1 < w.heap.size := (Array.getElem?_eq_some_iff.1 hb).1; obtain ⟨w', hw'⟩ : ∃ w', w' = { w with heap := w.heap.setIfInBounds (g r).1 (.map (zB l') l'.length) } := ⟨_, rfl⟩; have xz : w'.heap.size = w.heap.size := by rw [hw']; simp
  have bV : ∀ b, b ≠ (g r).1 → w'.heap[b]? = w.heap[b]? := fun b zT => by rw [hw']; simp [Array.getElem?_setIfInBounds_ne (Ne.symm zT)]
  have vY : w'.heap[(g r).1]? = some (.map (zB l') l'.length) := by rw [hw']; simp [zk]
  have hc : ∀ (b o : Nat) (u : Value), w.cell? ⟨b, o, none⟩ = some u → w'.cell? ⟨b, o, none⟩ = some u := by
    intro b o u h
    by_cases e : b = (g r).1
    · subst e
      simp [World.cell?, hb] at h
    exact (World.cell?_of_block (w := w) (a := ⟨b, o, none⟩) (bV b e)).trans h
  have hm : ∀ {v x}, v.mps = false → VRep w (qt c s.H g) g v x → VRep w' (qt c s.H g) g v x := fun hv h => h.nomap zg hc hv
  rw [← hw']; refine ⟨hs.size, hs.defers, ?_, hs.nul, ?_, ?_, hs.inj, hs.base, hs.low, ?_⟩
  · intro i v hv
    simp only at hv; rw [uo] at hv
    cases hu : fnd s.T i with
    | none => rw [hu] at hv; cases hv
    | some u =>
      rw [hu] at hv; simp only [map_some, Option.some.injEq] at hv; obtain ⟨x, h1, h2⟩ := hs.tmp i u hu; refine ⟨x, h1, ?_⟩; subst hv
      have vt : ∀ u : V, VRep w (qt c s.H g) g u x → VRep w' (qt c s.H g) g (if u.mps then .junk else u) x := by
        intro u h2
        split
        · exact .junk _
        rename_i zT; exact hm (by simpa using zT) h2
      cases u with
      | mp k N l0 =>
        simp only [upM]
        split
        · rename_i e
          subst e
          cases h2 with
          | mp _ _ _ h3 h4 => exact .mp _ _ _ h3 vY
        exact .junk _
      | d _ => exact vt _ h2
      | ad _ => exact vt _ h2
      | ref _ _ => exact vt _ h2
      | own _ _ _ _ => exact vt _ h2
      | que _ _ _ _ => exact vt _ h2
      | agg _ => exact vt _ h2
      | tup _ => exact vt _ h2
      | fn _ _ => exact vt _ h2
      | mq _ _ _ => exact vt _ h2
      | ifc _ _ => exact vt _ h2
      | mp2 _ _ _ _ _ _ => exact vt _ h2
      | it _ _ _ _ => exact vt _ h2
      | mit _ _ _ _ _ => exact vt _ h2
      | mm _ _ _ => exact vt _ h2
      | blk _ _ _ => exact vt _ h2
      | junk => exact .junk _
  · intro k row hk hn
    obtain ⟨arr, h1, h2, h3⟩ := hs.obj k row hk hn; refine ⟨arr, (bV _ fun e => ?_).trans h1, h2, fun j v hv => ?_⟩
    · rw [e, hb] at h1; cases h1
    grind [V.mpsL_false, mem_of_getElem?]
  · intro j v x h1 h2
    exact hm (V.mpsL_false.1 hK v (mem_of_getElem? h1)) (hs.keep j v x h1 h2)
  refine hs.below.trans ⟨by rw [hw'], by rw [hw'], by rw [hw'], by omega, fun k hk => bV k ?_⟩; omega
theorem Sim.regauge (h : Sim c g s a w) {r : Nat} (hr : s.clean r = true) (p : Nat × Nat) : Sim c (fun k => if k = r then p else g k) s a w := by
  have hfr : ∀ k row', fnd s.H k = some row' → k ≠ r := fun k row' hk => (S.clean_obj hr hk).1
  have hg : ∀ k row', fnd s.H k = some row' → (if k = r then p else g k) = g k := fun k row' hk => if_neg (hfr k row' hk)
  have hq : ∀ b, qt c s.H g b → b < w.heap.size → qt c s.H (fun k => if k = r then p else g k) b := fun b hb _ => ⟨hb.1, fun k row' hk hn => by show (if k = r then p else g k).1 ≠ b; rw [hg k row' hk]; exact hb.2 k row' hk hn⟩
  have hm : ∀ v x, v.has r = false → VRep w (qt c s.H g) g v x → VRep w (qt c s.H (fun k => if k = r then p else g k)) (fun k => if k = r then p else g k) v x := fun v x hv hx => hx.mono Cells.rfl hq fun k hk => by
    grind
  refine ⟨h.size, h.defers, ?_, h.nul, ?_, ?_, ?_, ?_, h.low, h.below⟩
  · intro i v hv
    obtain ⟨x, h1, h2⟩ := h.tmp i v hv; exact ⟨x, h1, hm v x (S.clean_tmp hr hv) h2⟩
  · intro k row' hk hn
    obtain ⟨arr, h1, hz, h2⟩ := h.obj k row' hk hn; simp only [hg k row' hk]; refine ⟨arr, h1, hz, fun j v hv => ?_⟩; obtain ⟨x, h3, h4⟩ := h2 j v hv; exact ⟨x, h3, hm v x ((S.clean_obj hr hk).2 v (mem_of_getElem? hv)) h4⟩
  · intro j v x h1 h2
    exact hm v x (S.clean_keep hr h1) (h.keep j v x h1 h2)
  · intro k k' row1 row2 h1 n1 h2 n2 h3
    simp only [hg k row1 h1, hg k' row2 h2] at h3; exact h.inj k k' _ _ h1 n1 h2 n2 h3
  intro k row' hk hn; simp only [hg k row' hk]; exact h.base k _ hk hn
theorem q48 (r : Nat) {t : TypeId} (ho : o.op = .makeMap t none) (hr : s.clean r = true) (hd : dok s o = true) : StepM c o s (fun s' => s' = s.put o.dst (.mp r c.w0.heap.size [])) := by
  intro g a w hs K Q hK; have hb : Below w.heap.size w (w.alloc (.map #[] 0)) := (Below.refl _ _).alloc (le_refl _) _; have h1 := (hs.move hb).regauge hr (w.heap.size, 0); unfold Oper.wp
  have xP : (execOp a.eval o).run c.P w = .ok (.value (.map (some w.heap.size))) (w.alloc (.map #[] 0)) := by
    simp [execOp, ho, Instr.makeMap]
  rw [xP]; refine hK _ _ _ _ rfl (h1.put o.dst (zJ hd) ?_) hb
  have := VRep.mp (w := w.alloc (.map #[] 0)) (q := qt c s.H (fun k => if k = r then (w.heap.size, 0) else g k)) (g := fun k => if k = r then (w.heap.size, 0) else g k) r c.w0.heap.size [] (by simp; exact hs.below.size) (by simp only [if_true]; exact heap_alloc_new w _)
  simpa using this
section
variable {K : Type} [DecidableEq K] {enc : K → Value}
theorem qg4 {P : Program} {t k e : TypeId} {l : List (K × Int)} {key : K} {ok : Bool} {w : World} (hk : KeyOk P k enc) (hu : P.underlying t = some (.map k e)) (hi : Inf P e 1 bt (.int .i64 0)) (hb : w.heap[b]? = some (.map (zB (zu enc l)) (zu enc l).length)) :
    (Instr.lookup t (.map (some b)) (enc key) ok).run P w = .ok (if ok then .tuple #[.int .i64 ((zK l key).getD 0), .bool (zK l key).isSome] else .int .i64 ((zK l key).getD 0)) w := by
  simp only [Instr.lookup, Sem.run_bind, run_underlying hu, Result.andThen_ok, wS hb, Sem.run_pure, hk.check, hk.find]; unfold zK
  cases h : xQ l key 0 with
  | none => cases ok <;> simp [u0 hi]
  | some x => cases ok <;> simp
theorem qm5 {t k e : TypeId} {x y : Operand} {ok : Bool} {r : Nat} {l : List (K × Int)} {key : K} {v : V} (hk : KeyOk c.P k enc) (hu : c.P.underlying t = some (.map k e)) (hi : Inf c.P e 1 bt (.int .i64 0)) (ho : o.op = .lookup t x y ok) (hx : s.ev x = some (.mp r N (zu enc l)) ∨ s.ev x = some (.d (.mp (zu enc l)))) (hy : ∀ g a w, Sim c g s a w → a.eval y = enc key)
    (hv : v = if ok then .tup [.i ((zK l key).getD 0), .b (zK l key).isSome] else .i ((zK l key).getD 0)) : RD c o s v := fun g a w hs => by
  have hx' : ∃ b, a.eval x = .map (some b) ∧ w.heap[b]? = some (.map (zB (zu enc l)) (zu enc l).length) := by
    rcases hx with hx | hx
    · have h := hs.ev hx
      generalize a.eval x = u at h
      cases h with
      | mp _ _ _ hN hm => exact ⟨_, rfl, hm⟩
    have h := hs.ev hx; generalize a.eval x = u at h
    cases h with
    | d _ _ h =>
      cases h with
      | mp _ b hq hm => exact ⟨b, rfl, hm⟩
  obtain ⟨b, hxe, hm⟩ := hx'; subst hv
  refine ⟨if ok then .tuple #[.int .i64 ((zK l key).getD 0), .bool (zK l key).isSome] else .int .i64 ((zK l key).getD 0), ?_, fun w' hb => ?_⟩
  · cases ok
    · exact .d _ _ (.p _)
    refine .tup [.i ((zK l key).getD 0), .b (zK l key).isSome] [.int .i64 ((zK l key).getD 0), .bool (zK l key).isSome] rfl fun j u z hu hz => ?_
    match j, hu, hz with
    | 0, hu, hz => simp at hu hz; subst hu hz; exact .d _ _ (.p _)
    | 1, hu, hz => simp at hu hz; subst hu hz; exact .d _ _ (.p _)
    | n + 2, hu, hz => simp at hu
  have := qg4 (ok := ok) (key := key) hk hu hi ((hb.block _ (Array.getElem?_eq_some_iff.1 hm).1).trans hm); simp only [execOp, ho, hxe, hy g a w hs, Sem.run_bind, this, Result.andThen_ok]; rfl
theorem qm6 {t k e : TypeId} {x y z : Operand} {r : Nat} {l : List (K × Int)} {key : K} {v : Int} (hk : KeyOk c.P k enc) (hu : c.P.underlying t = some (.map k e)) (ho : o.op = .mapUpdate t x y z) (hd : o.dst = none) (hx : s.ev x = some (.mp r N (zu enc l))) (hy : ∀ g a w, Sim c g s a w → a.eval y = enc key) (hz : s.ev z = some (.i v))
    (hN : N = c.w0.heap.size) (hH : s.H.all (fun x => !V.mpsL x.2.cells) = true) (hK : V.mpsL s.K = false) : vm c o s (fun s' => s' = ⟨s.n, s.T.map (fun x => (x.1, upM r (zu enc (vB l key v)) x.2)), s.H, s.K⟩) := by
  subst hN; intro g a w hs K' Q hK'
  have hx' : a.eval x = .map (some (g r).1) ∧ c.w0.heap.size ≤ (g r).1 ∧ w.heap[(g r).1]? = some (.map (zB (zu enc l)) (zu enc l).length) := by
    have h := hs.ev hx; generalize a.eval x = u at h
    cases h with
    | mp _ _ _ hN hm => exact ⟨rfl, hN, hm⟩
  obtain ⟨hxe, hNb, hm⟩ := hx'
  have zv : (Instr.mapUpdate t (.map (some (g r).1)) (enc key) (.int .i64 v)).run c.P w = .ok () { w with heap := w.heap.setIfInBounds (g r).1 (.map (zB (zu enc (vB l key v))) (zu enc (vB l key v)).length) } := by
    simp only [Instr.mapUpdate, Sem.run_bind, run_underlying hu, Result.andThen_ok, wS hm, hk.check, hk.find]; unfold vB
    cases h : xQ l key 0 with
    | none =>
      simp only [map_none, yd _ hm, gc]; simp [zu]
    | some p =>
      obtain ⟨i, v0⟩ := p; have wP : (zu enc l)[i]? = some (enc key, .int .i64 v0) := by simp [zu, ub h]
      have hk0 : (((zB (zu enc l))[i]?).map (·.key)).getD (enc key) = enc key := by rw [wF, wP]; rfl
      simp only [map_some, hk0, Instr.keyThatStays, hk.same, if_true, Sem.run_bind, Sem.run_pure, Result.andThen_ok, yd _ hm, q69 _ _ _ _ _ _ wP]; simp [zu, map_set]
  unfold Oper.wp
  have xP : (execOp a.eval o).run c.P w = .ok .skip { w with heap := w.heap.setIfInBounds (g r).1 (.map (zB (zu enc (vB l key v))) (zu enc (vB l key v)).length) } := by
    simp only [execOp, ho, hxe, hy g a w hs, VRep.p_eq (hs.ev hz), Sem.run_bind, zv, Result.andThen_ok]; rfl
  rw [xP]; simp only [Oper.upon, hd, Act.put]; refine hK' g _ a _ rfl (hs.upMap hm hNb (fun k row hk => ?_) hK); have := List.all_eq_true.1 hH _ (vo hk)
  simpa using this
end
section
variable {K : Type} [DecidableEq K] {enc : K → Value}
theorem q37 {t k e : TypeId} {x y : Operand} {r : Nat} {l : List (K × Int)} {key : K} {v : Int} (hk : KeyOk c.P k enc) (hu : c.P.underlying t = some (.map k e)) (hi : Inf c.P e 1 bt (.int .i64 0)) (ho : o.op = .lookup t x y true) (hx : s.ev x = some (.mp r N (zu enc l)) ∨ s.ev x = some (.d (.mp (zu enc l)))) (hy : ∀ g a w, Sim c g s a w → a.eval y = enc key)
    (hv : zK l key = some v) : RD c o s (.tup [.i v, .b true]) := qm5 (ok := true) hk hu hi ho hx hy (by rw [hv]; rfl)
theorem qc7 {t k e : TypeId} {x y : Operand} {r : Nat} {l : List (K × Int)} {key : K} (hk : KeyOk c.P k enc) (hu : c.P.underlying t = some (.map k e)) (hi : Inf c.P e 1 bt (.int .i64 0)) (ho : o.op = .lookup t x y true) (hx : s.ev x = some (.mp r N (zu enc l)) ∨ s.ev x = some (.d (.mp (zu enc l)))) (hy : ∀ g a w, Sim c g s a w → a.eval y = enc key)
    (hv : zK l key = none) : RD c o s (.tup [.i 0, .b false]) := qm5 (ok := true) hk hu hi ho hx hy (by rw [hv]; rfl)
end
end
section
variable (r : Nat) (l : List (Value × Value))
theorem qx9 (x : Value) : upM r l (.d (.p x)) = .d (.p x) := rfl
theorem qm7 (sz bt : Nat) (rows : List (List D)) (h : D.mpsR rows = false) : upM r l (.d (.sl sz bt rows)) = .d (.sl sz bt rows) := by simp [upM, V.mps, D.mps, h]
theorem qc8 (a b : Nat) : upM r l (.ref a b) = .ref a b := rfl
theorem qc9 (a b n : Nat) (z : Bool) : upM r l (.own a b n z) = .own a b n z := rfl
theorem qm8 (N : Nat) (l0 : List (Value × Value)) : upM r l (.mp r N l0) = .mp r N l := by simp [upM]
theorem q70 : upM r l .junk = .junk := rfl
theorem qd0 (x : Value) (y : Value) : upM r l (.tup [.d (.p x), .d (.p y)]) = .tup [.d (.p x), .d (.p y)] := rfl
theorem gJ {α : Type} (f : α → List D) (hf : ∀ x, D.mpsL (f x) = false) : ∀ l : List α, D.mpsR (l.map f) = false
  | [] => rfl
  | x :: l => by rw [map_cons, D.mpsR, hf x, gJ f hf l]; rfl
theorem q84 {α : Type} (f : α → List V) (hf : ∀ x, V.mpsL (f x) = false) : ∀ l : List α, V.mpsL (l.flatMap f) = false
  | [] => rfl
  | x :: l => by
    rw [flatMap_cons, V.mpsL_false]; intro v hv
    rcases List.mem_append.1 hv with h | h
    · exact V.mpsL_false.1 (hf x) v h
    exact V.mpsL_false.1 (q84 f hf l) v h
theorem vM (l : List Ar) : D.mpsR (l.map arD) = false := gJ _ (fun _ => rfl) l
theorem vZ (l : List St) : D.mpsR (l.map stD) = false := gJ _ (fun x => by simp [stD, D.mpsL, D.mps, vM]) l
end
mutual
def V.its : V → Bool
  | .mit _ _ _ _ _ => true
  | .blk _ _ _ => true
  | .ifc _ v => V.its v
  | .agg l => V.itsL l
  | .tup l => V.itsL l
  | .fn _ l => V.itsL l
  | _ => false
def V.itsL : List V → Bool
  | [] => false
  | v :: l => V.its v || V.itsL l
end
theorem V.itsL_false {l : List V} : V.itsL l = false ↔ ∀ d ∈ l, V.its d = false := by
  induction l with
  | nil => simp [V.itsL]
  | cons x l ih => simp [V.itsL, ih]
def q38 (r : Nat) (seen : List Nat) : V → V
  | .mit k rm N l s0 => if k = r then .mit k rm N l seen else .junk
  | v => if v.its then .junk else v
theorem qI7 {l : List (Value × Value)} {e : MapEntry} (h : e ∈ (zB l).toList) : ∃ j kv, l[j]? = some kv ∧ e = { key := kv.1, val := kv.2, born := j } := by grind [List.getElem?_of_mem, wF]
theorem qU0 {l : List (Value × Value)} (h : l[j]? = some kv) : ({ key := kv.1, val := kv.2, born := j } : MapEntry) ∈ (zB l).toList := by
  have : (zB l).toList[j]? = some { key := kv.1, val := kv.2, born := j } := by rw [Array.getElem?_toList, wF, h]; rfl
  exact mem_of_getElem? this
theorem qI8 {P : Program} (w : World) (ty : TypeId) (b bm : Nat) (l : List (Value × Value)) (seen : List Nat) (hb : w.heap[b]? = some (.mapIter (some bm) l.length seen.toArray l.length)) (hm : w.heap[bm]? = some (.map (zB l) l.length)) :
    ((∀ j, j < l.length → j ∈ seen) ∧ (Instr.next (.pointer (some ⟨b, 0, none⟩)) false ty).run P w = .ok (.tuple #[.bool false]) w) ∨
    ∃ (j : Nat) (kv : Value × Value) (w1 : World), l[j]? = some kv ∧ j ∉ seen ∧ w1.heap = w.heap ∧ Below w.heap.size w w1 ∧
      (Instr.next (.pointer (some ⟨b, 0, none⟩)) false ty).run P w = .ok (.tuple #[.bool true, kv.1, kv.2]) { w1 with heap := w.heap.setIfInBounds b (.mapIter (some bm) l.length (seen ++ [j]).toArray l.length) } := by
  have uJ : ∀ x ∈ (zB l).toList, x.born < l.length := fun x hx => by grind [qI7, List.getElem?_eq_some_iff]
  simp only [Instr.next, getObj, Sem.run_bind, Sem.run, hb, hm, Result.andThen, next_test_false seen.toArray (zB l) l.length l.length uJ (le_refl _), false_eq_true, if_false]
  have qa7 : ∀ x ∈ (Array.filter (fun e => !seen.toArray.contains e.born) (zB l)).toList, x.born < l.length ∧ ∃ j kv, l[j]? = some kv ∧ j ∉ seen ∧ x = { key := kv.1, val := kv.2, born := j } := fun x hx => by
    grind [Array.toList_filter, qI7]
  have xE : (Array.filter (fun e => !seen.toArray.contains e.born) (zB l)).size = 0 → ∀ j, j < l.length → j ∈ seen := by
    intro h0 j hj; refine Classical.byContradiction fun hn => ?_; have h1 := qU0 (List.getElem?_eq_getElem hj)
    have : ({ key := l[j].1, val := l[j].2, born := j } : MapEntry) ∈ (Array.filter (fun e => !seen.toArray.contains e.born) (zB l)).toList := by grind
    rw [Array.eq_empty_of_size_eq_zero h0] at this; simp at this
  generalize Array.filter (fun e => !seen.toArray.contains e.born) (zB l) = L at qa7 xE ⊢
  have e1 : L.filter (fun x => decide (x.born < l.length)) = L := Array.filter_eq_self.2 (fun x hx => by simpa using (qa7 x (by simpa using hx)).1)
  have e2 : L.filter (fun x => decide (x.born ≥ l.length)) = #[] := by grind [Array.filter_eq_empty_iff]
  simp only [e1, e2, Array.append_empty]
  by_cases h0 : L.size = 0
  · left
    refine ⟨xE h0, ?_⟩; have : L = #[] := Array.eq_empty_of_size_eq_zero h0; subst this; simp [choose, Sem.run, Question.forced]
  right; have zT : L.isEmpty = false := by simp [Array.isEmpty, h0]
  simp only [zT, false_eq_true, if_false, Array.empty_append, Array.size_map]
  have hch : ∃ (j : Nat) (w1 : World), j < L.size ∧ w1.heap = w.heap ∧ Below w.heap.size w w1 ∧ (choose (Question.mapNext L.size)).run P w = .ok j w1 := by
    by_cases hf : L.size ≤ 1
    · exact ⟨0, w, by omega, rfl, Below.refl _ _, by simp [choose, Sem.run, Question.forced, hf]⟩
    exact ⟨_, w.drew, Nat.mod_lt _ zg, rfl, (Below.refl _ _).drew, by
      simp only [choose, Sem.run, Question.forced, decide_eq_true_eq, hf, if_false, Question.cut]
      rfl⟩
  obtain ⟨i, w1, hi, hh, hB, zv⟩ := hch; obtain ⟨_, j, kv, h1, h2, h3⟩ := qa7 L[i] zx; refine ⟨j, kv, w1, h1, h2, hh, hB, ?_⟩
  have wJ : ∀ (o' : Obj), (setObj b o').run P w1 = .ok () { w1 with heap := w.heap.setIfInBounds b o' } := fun o' => by
    simp only [setObj, Sem.run, hh, hb]
  simp only [zv, Array.getElem?_map, Array.getElem?_eq_getElem hi, map_some, Sem.run_bind, wJ, Result.andThen, h3]; simp
theorem jd4 {P : Program} (w : World) (b bm j : Nat) (l : List (Value × Value)) (seen : List Nat) (kv : Value × Value) (hb : w.heap[b]? = some (.mapIter (some bm) l.length (seen ++ [j]).toArray l.length)) (hm : w.heap[bm]? = some (.map (zB l) l.length)) (hj : l[j]? = some kv) :
    (Instr.entry (.pointer (some ⟨b, 0, none⟩))).run P w = .ok (.tuple #[kv.1, kv.2]) w := by
  have hn : ((zB l).toList.map (·.born)).Nodup := by
    have : (zB l).toList.map (·.born) = List.range l.length := by
      refine ext_getElem? fun i => ?_; rw [List.getElem?_map, Array.getElem?_toList, wF]
      by_cases hi : i < l.length
      · grind
      grind
    rw [this]; exact List.nodup_range
  have hf : (zB l).find? (·.born == j) = some { key := kv.1, val := kv.2, born := j } := by
    rw [← Array.find?_toList]; exact find_born { key := kv.1, val := kv.2, born := j } (zB l).toList hn (qU0 hj)
  have hbk : (seen ++ [j]).toArray.back? = some j := by simp
  simp only [Instr.entry, getObj, Sem.run_bind, Sem.run, hb, hm, Result.andThen, hbk, bne_self_eq_false, false_eq_true, if_false, hf]; rfl
section
variable {c : Cx} {s : S} {o : Oper} {g : Nat → Nat × Nat} {a : Act} {w : World} {Q : Exit → S → Prop}
theorem DRep.noit {w : World} {x : D} {v : Value} (h : DRep w q x v) (xz : w.heap.size ≤ w'.heap.size) (hk : ∀ (b : Nat) (ob : Obj), w.heap[b]? = some ob → (∀ m s e k, ob ≠ Obj.mapIter m s e k) → w'.heap[b]? = some ob) : DRep w' q x v := by
  have hc : ∀ (b o : Nat) (u : Value), w.cell? ⟨b, o, none⟩ = some u → w'.cell? ⟨b, o, none⟩ = some u := fun b o u h => by
    have h0 := h; unfold World.cell? at h
    cases hb : w.heap[b]? with
    | none => simp [hb] at h
    | some ob =>
      refine (World.cell?_of_block (w := w) (a := ⟨b, o, none⟩) ((hk b ob hb fun m s e k he => ?_).trans hb.symm)).trans h0; subst he; simp [hb] at h
  induction h with
  | p x => exact .p x
  | sl sz bt rows a cap b o f hcp ha hl h1 hr ih =>
    refine .sl sz bt rows a cap b o f hcp (fun zT => ?_) hl (fun i j row u h2 h3 => hc _ _ _ (h1 i j row u h2 h3)) ih
    obtain ⟨e1, e2, e3⟩ := ha zT; exact ⟨e1, e2, lt_of_lt_of_le e3 xz⟩
  | mp l b hb hm => exact .mp l b ⟨hb.1, lt_of_lt_of_le hb.2 xz⟩ (hk _ _ hm (fun _ _ _ _ h => by cases h))
  | mm l b bs hb hl hqs hm hi => exact .mm l b bs ⟨hb.1, lt_of_lt_of_le hb.2 xz⟩ hl (fun k hk' => ⟨(hqs k hk').1, lt_of_lt_of_le (hqs k hk').2 xz⟩) (hk _ _ hm (fun _ _ _ _ h => by cases h)) fun j x k h1 h2 => hk _ _ (hi j x k h1 h2) (fun _ _ _ _ h => by cases h)
theorem VRep.noit {w w' : World} {q : Nat → Prop} {g : Nat → Nat × Nat} {x : V} {v : Value} (h : VRep w q g x v) (xz : w.heap.size ≤ w'.heap.size) (hk : ∀ (b : Nat) (ob : Obj), w.heap[b]? = some ob → (∀ m s e k, ob ≠ Obj.mapIter m s e k) → w'.heap[b]? = some ob) : x.its = false → VRep w' q g x v := by
  have hc : ∀ (b o : Nat) (u : Value), w.cell? ⟨b, o, none⟩ = some u → w'.cell? ⟨b, o, none⟩ = some u := fun b o u h => by
    have h0 := h; unfold World.cell? at h
    cases hb : w.heap[b]? with
    | none => simp [hb] at h
    | some ob =>
      refine (World.cell?_of_block (w := w) (a := ⟨b, o, none⟩) ((hk b ob hb fun m s e k he => ?_).trans hb.symm)).trans h0; subst he; simp [hb] at h
  have hmp : ∀ (b : Nat) (es : Array MapEntry) (n : Nat), w.heap[b]? = some (Obj.map es n) → w'.heap[b]? = some (Obj.map es n) := fun b es n h => hk _ _ h (fun _ _ _ _ h => by cases h)
  induction h with
  | d x v h => exact fun _ => .d x v (h.noit xz hk)
  | ad row b o f hb h1 hr => exact fun _ => .ad row b o f ⟨hb.1, lt_of_lt_of_le hb.2 xz⟩ (fun j u hu => hc _ _ _ (h1 j u hu)) (fun j u hu => (hr j u hu).noit xz hk)
  | ref r o => exact fun _ => .ref r o
  | own r sz n hn vK => exact fun _ => .own r sz n hn vK
  | ownNil r sz => exact fun _ => .ownNil r sz
  | que r sz o n a cap hn vK h => exact fun _ => .que r sz o n a cap hn vK h
  | agg l cs zI h ih => exact fun hm => .agg l cs zI fun j u c h1 h2 => ih j u c h1 h2 (V.itsL_false.1 hm u (mem_of_getElem? h1))
  | tup l cs zI h ih => exact fun hm => .tup l cs zI fun j u c h1 h2 => ih j u c h1 h2 (V.itsL_false.1 hm u (mem_of_getElem? h1))
  | fn f l cs zI h ih => exact fun hm => .fn f l cs zI fun j u c h1 h2 => ih j u c h1 h2 (V.itsL_false.1 hm u (mem_of_getElem? h1))
  | mp r N l hN hm => exact fun _ => .mp r N l hN (hmp _ _ _ hm)
  | mq r N l vs hN hl wB hr hm => exact fun _ => .mq r N l vs hN hl wB (fun j x y i u z h1 h2 h3 h4 => (hr j x y i u z h1 h2 h3 h4).noit xz hk) (hmp _ _ _ hm)
  | ifc t v x h ih => exact fun hm => .ifc t v x (ih (by simpa [V.its] using hm))
  | mp2 x r r' N l l' hN hN' zT hm hm' => exact fun _ => .mp2 x r r' N l l' hN hN' zT (hmp _ _ _ hm) (hmp _ _ _ hm')
  | it r N s pos hN hm => exact fun _ => .it r N s pos hN (hk _ _ hm (fun _ _ _ _ h => by cases h))
  | mit => exact fun h => by simp [V.its] at h
  | mm r N l bs hN hl hbs wC hm hi => exact fun _ => .mm r N l bs hN hl hbs wC (hmp _ _ _ hm) fun j x k h1 h2 => hmp _ _ _ (hi j x k h1 h2)
  | blk => exact fun h => by simp [V.its] at h
  | junk v => exact fun _ => .junk v
theorem Sim.upMit (hs : Sim c g s a w) {r : Nat} {l : List (Value × Value)} {seen seen' : List Nat} (hw1 : w1.heap = w.heap) (hB : Below w.heap.size w w1) (hb : w.heap[(g r).1]? = some (.mapIter (some (g rm).1) l.length seen.toArray l.length)) (hmm : w.heap[(g rm).1]? = some (.map (zB l) l.length)) (hN : c.w0.heap.size ≤ (g r).1)
    (hH : ∀ k row, fnd s.H k = some row → V.itsL row.cells = false) (hK : V.itsL s.K = false) (hT : ∀ i k m N l' s', fnd s.T i = some (.mit k m N l' s') → k = r → m = rm ∧ l' = l) :
    Sim c g ⟨s.n, s.T.map (fun x => (x.1, q38 r seen' x.2)), s.H, s.K⟩ a { w1 with heap := w.heap.setIfInBounds (g r).1 (.mapIter (some (g rm).1) l.length seen'.toArray l.length) } := by
  have zk : (g r).1 < w.heap.size := (Array.getElem?_eq_some_iff.1 hb).1; obtain ⟨w', hw'⟩ : ∃ w', w' = { w1 with heap := w.heap.setIfInBounds (g r).1 (.mapIter (some (g rm).1) l.length seen'.toArray l.length) } := ⟨_, rfl⟩; have xz : w'.heap.size = w.heap.size := by rw [hw']; simp
  have bV : ∀ b, b ≠ (g r).1 → w'.heap[b]? = w.heap[b]? := fun b zT => by rw [hw']; simp [Array.getElem?_setIfInBounds_ne (Ne.symm zT)]
  have vY : w'.heap[(g r).1]? = some (.mapIter (some (g rm).1) l.length seen'.toArray l.length) := by rw [hw']; simp [zk]
  have hk : ∀ (b : Nat) (ob : Obj), w.heap[b]? = some ob → (∀ m s e k, ob ≠ Obj.mapIter m s e k) → w'.heap[b]? = some ob := fun b ob h1 h2 => (bV b fun e => by
    subst e; rw [hb] at h1; simp only [Option.some.injEq] at h1
    exact h2 _ _ _ _ h1.symm).trans h1
  have hm : ∀ {v x}, v.its = false → VRep w (qt c s.H g) g v x → VRep w' (qt c s.H g) g v x := fun hv h => h.noit zg hk hv
  rw [← hw']; refine ⟨hs.size, hs.defers, ?_, hs.nul, ?_, ?_, hs.inj, hs.base, hs.low, ?_⟩
  · intro i v hv
    simp only at hv; rw [uo] at hv
    cases hu : fnd s.T i with
    | none => rw [hu] at hv; cases hv
    | some u =>
      rw [hu] at hv; simp only [map_some, Option.some.injEq] at hv; obtain ⟨x, h1, h2⟩ := hs.tmp i u hu; refine ⟨x, h1, ?_⟩; subst hv
      have vt : ∀ u : V, VRep w (qt c s.H g) g u x → VRep w' (qt c s.H g) g (if u.its then .junk else u) x := by
        intro u h2
        split
        · exact .junk _
        rename_i zT; exact hm (by simpa using zT) h2
      cases u with
      | mit k m N l0 s0 =>
        simp only [q38]
        split
        · rename_i e
          obtain ⟨e1, e2⟩ := hT i _ _ _ _ _ hu e; subst e e1 e2
          cases h2 with
          | mit _ _ _ _ _ h3 _ _ => exact .mit _ _ _ _ _ h3 vY (hk _ _ hmm (fun _ _ _ _ h => by cases h))
        exact .junk _
      | d _ => exact vt _ h2
      | ad _ => exact vt _ h2
      | ref _ _ => exact vt _ h2
      | own _ _ _ _ => exact vt _ h2
      | que _ _ _ _ => exact vt _ h2
      | agg _ => exact vt _ h2
      | tup _ => exact vt _ h2
      | fn _ _ => exact vt _ h2
      | mp _ _ _ => exact vt _ h2
      | mq _ _ _ => exact vt _ h2
      | mp2 _ _ _ _ _ _ => exact vt _ h2
      | ifc _ _ => exact vt _ h2
      | it _ _ _ _ => exact vt _ h2
      | mm _ _ _ => exact vt _ h2
      | blk _ _ _ => exact vt _ h2
      | junk => exact .junk _
  · intro k row hk' hn
    obtain ⟨arr, h1, h2, h3⟩ := hs.obj k row hk' hn; refine ⟨arr, hk _ _ h1 (fun _ _ _ _ h => by cases h), h2, fun j v hv => ?_⟩; obtain ⟨x, h4, h5⟩ := h3 j v hv; exact ⟨x, h4, hm (V.itsL_false.1 (hH k row hk') v (mem_of_getElem? hv)) h5⟩
  · intro j v x h1 h2
    exact hm (V.itsL_false.1 hK v (mem_of_getElem? h1)) (hs.keep j v x h1 h2)
  have hb1 := hs.below.trans (hB.mono hs.below.size); refine hb1.trans ⟨by rw [hw'], by rw [hw'], by rw [hw'], by rw [xz, hw1]; exact le_refl _, fun k hk' => (bV k ?_).trans (by rw [hw1])⟩; omega
theorem S.clean_ev {r : Nat} (h : s.clean r = true) {x : Operand} {v : V} (hx : s.ev x = some v) : v.has r = false := by
  cases x with
  | tmp t => exact S.clean_tmp h hx
  | const y => simp only [S.ev, Option.some.injEq] at hx; subst hx; rfl
  | global k => simp only [S.ev, Option.some.injEq] at hx; subst hx; rfl
  | func f => simp only [S.ev, Option.some.injEq] at hx; subst hx; rfl
theorem jj1 (r : Nat) {t k e : TypeId} {x : Operand} {l : List (Value × Value)} (hu : c.P.underlying t = some (.map k e)) (ho : o.op = .range t x) (hx : s.ev x = some (.mp rm N l)) (hr : s.clean r = true) (hd : dok s o = true) : StepM c o s (fun s' => s' = s.put o.dst (.mit r rm c.w0.heap.size l [])) := by
  intro g a w hs K Q hK; have hb : Below w.heap.size w (w.alloc (.mapIter (some (g rm).1) l.length #[] l.length)) := (Below.refl _ _).alloc (le_refl _) _; have h1 := (hs.move hb).regauge hr (w.heap.size, 0)
  have zT : rm ≠ r := by
    have := S.clean_ev hr hx
    simpa [V.has] using this
  obtain ⟨hxe, hm⟩ : a.eval x = .map (some (g rm).1) ∧ w.heap[(g rm).1]? = some (.map (zB l) l.length) := by
    have h := hs.ev hx; generalize a.eval x = u at h
    cases h with
    | mp _ _ _ _ h2 => exact ⟨rfl, h2⟩
  unfold Oper.wp
  have xP : (execOp a.eval o).run c.P w = .ok (.value (.pointer (some ⟨w.heap.size, 0, none⟩))) (w.alloc (.mapIter (some (g rm).1) l.length #[] l.length)) := by
    simp only [execOp, ho, hxe, Sem.run_bind, run_range_map w t k e (g rm).1 (zB l) l.length hu hm, Result.andThen_ok]; rfl
  rw [xP]; refine hK _ _ _ _ rfl (h1.put o.dst (zJ hd) ?_) hb
  have hg : (if rm = r then (w.heap.size, 0) else g rm) = g rm := if_neg zT
  have := VRep.mit (w := w.alloc (.mapIter (some (g rm).1) l.length #[] l.length)) (q := qt c s.H (fun k => if k = r then (w.heap.size, 0) else g k)) (g := fun k => if k = r then (w.heap.size, 0) else g k) r rm c.w0.heap.size l [] (by simp; exact hs.below.size) (by simp only [if_true, hg]; exact heap_alloc_new w _) (by simp only [hg]; exact (hb.block _ (Array.getElem?_eq_some_iff.1 hm).1).trans hm)
  simpa using this
theorem qy0 (r rm : Nat) {t k e : TypeId} {x : Operand} {l : List (Value × Value)} (hu : c.P.underlying t = some (.map k e)) (ho : o.op = .range t x) (hx : s.ev x = some (.d (.mp l))) (hr : s.clean r = true) (hrm : s.clean rm = true) (zT : rm ≠ r) (hd : dok s o = true) : StepM c o s (fun s' => s' = s.put o.dst (.mit r rm c.w0.heap.size l [])) := by
  intro g a w hs K Q hK
  obtain ⟨b, hxe, hm⟩ : ∃ b, a.eval x = .map (some b) ∧ w.heap[b]? = some (.map (zB l) l.length) := by
    have h := hs.ev hx; generalize a.eval x = u at h
    cases h with
    | d _ _ h2 =>
      cases h2 with
      | mp _ b _ h3 => exact ⟨b, rfl, h3⟩
  have hb : Below w.heap.size w (w.alloc (.mapIter (some b) l.length #[] l.length)) := (Below.refl _ _).alloc (le_refl _) _; have h1 := ((hs.move hb).regauge hrm (b, 0)).regauge hr (w.heap.size, 0); unfold Oper.wp
  have xP : (execOp a.eval o).run c.P w = .ok (.value (.pointer (some ⟨w.heap.size, 0, none⟩))) (w.alloc (.mapIter (some b) l.length #[] l.length)) := by
    simp only [execOp, ho, hxe, Sem.run_bind, run_range_map w t k e b (zB l) l.length hu hm, Result.andThen_ok]; rfl
  rw [xP]; refine hK _ _ _ _ rfl (h1.put o.dst (zJ hd) ?_) hb
  have := VRep.mit (w := w.alloc (.mapIter (some b) l.length #[] l.length)) (q := qt c s.H (fun k => if k = r then (w.heap.size, 0) else if k = rm then (b, 0) else g k)) (g := fun k => if k = r then (w.heap.size, 0) else if k = rm then (b, 0) else g k) r rm c.w0.heap.size l [] (by simp; exact hs.below.size) (by simp only [if_true, if_neg zT]; exact heap_alloc_new w _) (by simp only [if_true, if_neg zT]; exact (hb.block _ (Array.getElem?_eq_some_iff.1 hm).1).trans hm)
  simpa using this
theorem qt5 (hs : Sim c g s a w) {x : Operand} {r : Nat} {l : List (Value × Value)} {seen : List Nat} (hx : s.ev x = some (.mit r rm N l seen)) : a.eval x = .pointer (some ⟨(g r).1, 0, none⟩) ∧ N ≤ (g r).1 ∧ w.heap[(g r).1]? = some (.mapIter (some (g rm).1) l.length seen.toArray l.length) ∧ w.heap[(g rm).1]? = some (.map (zB l) l.length) := by
  have h := hs.ev hx; generalize a.eval x = u at h
  cases h with
  | mit _ _ _ _ _ h1 h2 h3 => exact ⟨rfl, h1, h2, h3⟩
theorem k8 {ops : Array Oper} {rest : List Oper} {t r : Nat} {l : List (Value × Value)} {seen : List Nat} (hg : o.guard = none) (ho : o.op = .next (.tmp t) false) (hx : fnd s.T t = some (.mit r rm N l seen)) (hN : N = c.w0.heap.size) (hH : s.H.all (fun x => !V.itsL x.2.cells) = true) (hK : V.itsL s.K = false)
    (hT : s.T.all (fun x => match x.2 with | .mit k _ _ _ _ => decide (k ≠ r) || decide (x.1 = t) | _ => true) = true) (hd : dok s o = true)
    (h0 : (∀ j, j < l.length → j ∈ seen) → AL c ops rest Q (s.put o.dst (.tup [.b false])))
    (h1 : ∀ (j : Nat) (kv : Value × Value), l[j]? = some kv → j ∉ seen → AL c ops rest Q (S.put ⟨s.n, s.T.map (fun x => (x.1, q38 r (seen ++ [j]) x.2)), s.H, s.K⟩ o.dst (.tup [.b true, .junk, .junk]))) : AL c ops (o :: rest) Q s := by
  subst hN; refine qN hg ?_; intro g a w hs K Q' hK'; obtain ⟨hxe, hNb, hm, hmm⟩ := qt5 (x := .tmp t) hs hx; unfold Oper.wp
  rcases qI8 (P := c.P) w o.type (g r).1 (g rm).1 l seen hm hmm with ⟨h2, zv⟩ | ⟨j, kv, w1, h2, h3, h4, h5, zv⟩
  · have xP : (execOp a.eval o).run c.P w = .ok (.value (.tuple #[.bool false])) w := by
      simp only [execOp, ho, hxe, Sem.run_bind, zv, Result.andThen_ok]; rfl
    rw [xP]; refine hK' g _ _ _ (h0 h2) (hs.put o.dst (zJ hd) ?_)
    exact .tup _ [.bool false] rfl fun j u y hu hy => by
      match j, hu, hy with
      | 0, hu, hy => simp at hu hy; subst hu hy; exact .d _ _ (.p _)
      | n + 1, hu, hy => simp at hu
  have xP : (execOp a.eval o).run c.P w = .ok (.value (.tuple #[.bool true, kv.1, kv.2])) { w1 with heap := w.heap.setIfInBounds (g r).1 (.mapIter (some (g rm).1) l.length (seen ++ [j]).toArray l.length) } := by
    simp only [execOp, ho, hxe, Sem.run_bind, zv, Result.andThen_ok]; rfl
  rw [xP]
  have bG := hs.upMit (seen' := seen ++ [j]) h4 h5 hm hmm hNb (fun k row hk => by
    have := List.all_eq_true.1 hH _ (vo hk)
    simpa using this) hK (fun i k m N' l' s' hi he => by
    have := List.all_eq_true.1 hT _ (vo hi); simp only [Bool.or_eq_true, decide_eq_true_eq] at this
    rcases this with h | h
    · exact absurd he h
    subst h; rw [hx] at hi
    cases hi
    exact ⟨rfl, rfl⟩)
  refine hK' g _ _ _ (h1 j kv h2 h3) (bG.put o.dst (zJ (s := s) hd) ?_)
  exact .tup _ [.bool true, kv.1, kv.2] rfl fun j u y hu hy => by
    match j, hu, hy with
    | 0, hu, hy => simp at hu hy; subst hu hy; exact .d _ _ (.p _)
    | 1, hu, hy => simp at hu hy; subst hu; exact .junk _
    | 2, hu, hy => simp at hu hy; subst hu; exact .junk _
    | n + 3, hu, hy => simp at hu
theorem uw {x : Operand} {r : Nat} {l : List (Value × Value)} {seen : List Nat} {vk vv : V} (ho : o.op = .entry x) (hx : s.ev x = some (.mit r rm N l (seen ++ [j]))) (hj : l[j]? = some kv) (hk : ∀ w q g, VRep w q g vk kv.1) (hv : ∀ w q g, VRep w q g vv kv.2) : RD c o s (.tup [vk, vv]) := fun g a w hs => by
  obtain ⟨hxe, hNb, hm, hmm⟩ := qt5 hs hx
  refine ⟨.tuple #[kv.1, kv.2], .tup _ [kv.1, kv.2] rfl fun j u y hu hy => by
    match j, hu, hy with
    | 0, hu, hy => simp at hu hy; subst hu hy; exact hk _ _ _
    | 1, hu, hy => simp at hu hy; subst hu hy; exact hv _ _ _
    | n + 2, hu, hy => simp at hu, fun w' hb => ?_⟩
  have zv := jd4 (P := c.P) w' (g r).1 (g rm).1 j l seen kv ((hb.block _ (Array.getElem?_eq_some_iff.1 hm).1).trans hm) ((hb.block _ (Array.getElem?_eq_some_iff.1 hmm).1).trans hmm) hj; simp only [execOp, ho, hxe, Sem.run_bind, zv, Result.andThen_ok]; rfl
end
section
variable {c : Cx} {s : S} {o : Oper} {Q : Exit → S → Prop}
theorem j13 {x : Operand} {r : Nat} {l : List (Value × Value)} {seen : List Nat} (ho : o.op = .next x false) (hx : s.ev x = some (.mit r rm N l seen)) (xE : ∀ j, j < l.length → j ∈ seen) : RD c o s (.tup [.b false]) := fun g a w hs => by
  obtain ⟨hxe, hNb, hm, hmm⟩ := qt5 hs hx
  refine ⟨.tuple #[.bool false], .tup _ [.bool false] rfl fun j u y hu hy => by
    match j, hu, hy with
    | 0, hu, hy => simp at hu hy; subst hu hy; exact .d _ _ (.p _)
    | n + 1, hu, hy => simp at hu, fun w' hb => ?_⟩
  rcases qI8 (P := c.P) w' o.type (g r).1 (g rm).1 l seen ((hb.block _ (Array.getElem?_eq_some_iff.1 hm).1).trans hm) ((hb.block _ (Array.getElem?_eq_some_iff.1 hmm).1).trans hmm) with ⟨_, zv⟩ | ⟨j, kv, w1, h2, h3, _⟩
  · simp only [execOp, ho, hxe, Sem.run_bind, zv, Result.andThen_ok]
    rfl
  grind
theorem j6 {ops : Array Oper} {rest : List Oper} {t r : Nat} {l : List (Value × Value)} {seen : List Nat} (hg : o.guard = none) (ho : o.op = .next (.tmp t) false) (hx : fnd s.T t = some (.mit r rm N l seen)) (hN : N = c.w0.heap.size) (hH : s.H.all (fun x => !V.itsL x.2.cells) = true) (hK : V.itsL s.K = false)
    (hT : s.T.all (fun x => match x.2 with | .mit k _ _ _ _ => decide (k ≠ r) || decide (x.1 = t) | _ => true) = true) (hd : dok s o = true) (zT : ¬ ∀ j, j < l.length → j ∈ seen)
    (h1 : ∀ (j : Nat) (kv : Value × Value), l[j]? = some kv → j ∉ seen → AL c ops rest Q (S.put ⟨s.n, s.T.map (fun x => (x.1, q38 r (seen ++ [j]) x.2)), s.H, s.K⟩ o.dst (.tup [.b true, .junk, .junk]))) : AL c ops (o :: rest) Q s :=
  k8 hg ho hx hN hH hK hT hd (fun h => absurd h zT) h1
theorem uc {t e : TypeId} {x y : Operand} {sz len r k0 : Nat} {z : Value} {kd : IntKind} (hu : c.P.underlying t = some (.array len e)) (hi : Inf c.P e sz bt z) (ho : o.op = .indexAddr t x y) (hx : s.ev x = some (.ref r k0)) (hy : s.ev y = some (.d (.p (.int kd n')))) (hk : n' = (k : Int)) (zk : k < len) (h2 : 2 ≤ len) : RP c o s (.ref r (k0 + k * sz)) := fun g a w hs => by
  have h := hs.ev hx; refine ⟨.pointer (some ⟨(g r).1, k0 + k * sz, none⟩), .ref _ _, fun w' => ?_⟩; generalize hxe : a.eval x = u at h
  cases h
  subst hk; have xn : (k : Int) < len := by omega
  have jX8 : ¬ len ≤ 1 := by omega
  simp [execOp, ho, hxe, VRep.p_eq (hs.ev hy), Instr.indexAt, Instr.sureAddr, asIntOf, run_underlying hu, vP hi, xn, wN, zk, jX8]
theorem q85 {α : Type} (f : α → List V) (hf : ∀ x, V.itsL (f x) = false) : ∀ l : List α, V.itsL (l.flatMap f) = false
  | [] => rfl
  | x :: l => by
    rw [flatMap_cons, V.itsL_false]; intro v hv
    rcases List.mem_append.1 hv with h | h
    · exact V.itsL_false.1 (hf x) v h
    exact V.itsL_false.1 (q85 f hf l) v h
theorem yG (l : List Ar) : V.itsL (l.flatMap vG) = false := q85 _ (fun _ => rfl) l
theorem yH (l : List St) : V.itsL (l.flatMap xT) = false := q85 _ (fun _ => rfl) l
theorem yI (l : List Ar) : V.mpsL (l.flatMap vG) = false := q84 _ (fun _ => rfl) l
theorem yJ (l : List St) : V.mpsL (l.flatMap xT) = false := q84 _ (fun x => by simp [xT, stD, V.mpsL, V.mps, D.mps, vM]) l
theorem bj (l : List Int) : D.mpsR (l.map fun x => [D.p (.int .i64 x)]) = false := gJ _ (fun _ => rfl) l
theorem q21 (r : Nat) (l : List (Value × Value)) (a b d : Value) : upM r l (.agg [.d (.p a), .d (.p b), .d (.p d)]) = .agg [.d (.p a), .d (.p b), .d (.p d)] := rfl
theorem q22 (r : Nat) (l : List (Value × Value)) (a b d e : Value) : upM r l (.agg [.d (.p a), .d (.p b), .d (.p d), .d (.p e)]) = .agg [.d (.p a), .d (.p b), .d (.p d), .d (.p e)] := rfl
end
section
variable (r : Nat) (seen : List Nat)
theorem q86 (x y : D) : q38 r seen (.tup [.d x, .d y]) = .tup [.d x, .d y] := rfl
theorem qy1 (x : D) : q38 r seen (.d x) = .d x := rfl
theorem qg5 (a b : Nat) : q38 r seen (.ref a b) = .ref a b := rfl
theorem qg6 (a b n : Nat) (z : Bool) : q38 r seen (.own a b n z) = .own a b n z := rfl
theorem qp6 (a N : Nat) (l : List (Value × Value)) : q38 r seen (.mp a N l) = .mp a N l := rfl
theorem q87 : q38 r seen .junk = .junk := rfl
theorem qg7 (rm N : Nat) (l : List (Value × Value)) (s : List Nat) : q38 r seen (.mit r rm N l s) = .mit r rm N l seen := by simp [q38]
end
section
variable {c : Cx} {s : S} {o : Oper}
theorem ju3 (l : List Nat) {ts : List V} {fn : Func} {code : Code} {n : Nat} {ars : List V} {N : S → Prop} (hts : l.map (fun i => fnd s.T i) = ts.map some) (hf : Is c.P f fn code n rs) (hn : ars.length ≤ n) (hd : dok s o = true)
    (hex : ∀ g a w, Sim c g s a w → ∃ xs : List Value, (execOp a.eval o).run c.P w = .ok (.enter f xs.toArray) w ∧ y9 w (qt c s.H g) g ars xs)
    (h : ∀ kx, AW ⟨c.P, c.w0, c.out, kx, []⟩ code (QI c.P rs s.n l o.dst N) ⟨n, vV 0 ars, s.H, ts ++ s.K⟩) : vm c o s N := by
  intro g a w hs K Q hK; obtain ⟨xs, zv, qP0, jo8⟩ := hex g a w hs; have wB : l.length = ts.length := by simpa using congrArg List.length hts
  have zk : ∀ (j i : Nat) (v : V), l[j]? = some i → ts[j]? = some v → fnd s.T i = some v := by
    intro j i v h1 h2; have h3 := congrArg (fun l => l[j]?) hts; simp only [List.getElem?_map, h1, h2, map_some, Option.some.injEq] at h3; exact h3
  have xn : ∀ (j i : Nat), l[j]? = some i → ∃ v x, ts[j]? = some v ∧ fnd s.T i = some v ∧ a.tmps[i]? = some x ∧ VRep w (qt c s.H g) g v x := by
    intro j i h1; have hj : j < ts.length := by rw [← wB]; exact (List.getElem?_eq_some_iff.1 h1).1
    have h2 := zk j i ts[j] h1 (List.getElem?_eq_getElem hj); obtain ⟨x, h3, h4⟩ := hs.tmp i _ h2; exact ⟨_, x, List.getElem?_eq_getElem hj, h2, h3, h4⟩
  have bG : Sim ⟨c.P, c.w0, c.out, l.map (fun i => a.tmps.getD i undef) ++ c.kx, []⟩ g ⟨n, vV 0 ars, s.H, ts ++ s.K⟩ { tmps := xs.toArray ++ Array.replicate (fn.ntmps - xs.toArray.size) undef, defers := [] } w := by
    refine ⟨?_, rfl, ?_, hs.nul, hs.obj, ?_, hs.inj, hs.base, hs.low, hs.below⟩
    · simp [hf.ntmps]; omega
    · intro i v hv
      obtain ⟨_, h2⟩ := bD _ 0 i v hv; simp only [Nat.sub_zero] at h2; have hi : i < xs.length := by grind
      refine ⟨xs[i], ?_, ?_⟩
      · grind
      exact jo8 i v _ h2 (List.getElem?_eq_getElem hi)
    intro j v x h1 h2
    by_cases hj : j < ts.length
    · rw [List.getElem?_append_left hj] at h1
      rw [List.getElem?_append_left (by simp; omega)] at h2; simp only [List.getElem?_map] at h2
      cases h3 : l[j]? with
      | none => rw [h3] at h2; cases h2
      | some i =>
        rw [h3] at h2; simp only [map_some, Option.some.injEq] at h2; obtain ⟨v', x', h4, h5, h6, h7⟩ := xn j i h3; rw [h4] at h1; simp only [Option.some.injEq] at h1; subst h1; have : x = x' := by rw [← h2]; simp [Array.getD_eq_getD_getElem?, h6]
        subst this; exact h7
    rw [List.getElem?_append_right zg] at h1; rw [List.getElem?_append_right (by simp; omega)] at h2; refine hs.keep (j - ts.length) v x h1 ?_
    simpa [wB] using h2
  unfold Oper.wp; rw [zv]; simp only [Oper.upon]; refine calls_of_wp hf.func hf.body (wp_mono (h (l.map (fun i => a.tmps.getD i undef) ++ c.kx) g _ w bG) fun e a1 w1 hq => ?_); obtain ⟨g1, s1, h1, h2⟩ := hq
  have fin : (∃ vs, uX c.P s1 rs vs ∧ N (S.put ⟨s.n, l.zip s1.K, s1.H, s1.K.drop l.length⟩ o.dst (zZ vs))) →
      a1.defers = [] ∧ ∃ v, (results fn a1.tmps).run c.P w1 = .ok v w1 ∧ K (a.put o.dst v) w1 := by
    rintro ⟨vs, k1, k2⟩
    obtain ⟨x, k3, k4⟩ := uD (c := ⟨c.P, c.w0, c.out, l.map (fun i => a.tmps.getD i undef) ++ c.kx, []⟩) hf.results h2 k1
    refine ⟨h2.defers, x, k4, ?_⟩; refine hK g1 _ _ _ k2 (Sim.put (s := ⟨s.n, l.zip s1.K, s1.H, s1.K.drop l.length⟩) (c := c) ?_ o.dst (zJ (s := s) hd) k3); refine ⟨hs.size, hs.defers, ?_, h2.nul, h2.obj, ?_, h2.inj, h2.base, h2.low, h2.below⟩
    · intro i v hv
      obtain ⟨j, h3, h4⟩ := qB4 _ _ i v hv; obtain ⟨v', x', h5, h6, h7, h8⟩ := xn j i h3; refine ⟨x', h7, h2.keep j v x' h4 ?_⟩; have hj : j < l.length := (List.getElem?_eq_some_iff.1 h3).1; simp only; rw [List.getElem?_append_left (by simpa using hj)]; simp [h3, Array.getD_eq_getD_getElem?, h7]
    intro j v x h3 h4; refine h2.keep (l.length + j) v x (by simpa using h3) ?_; simp only; rw [List.getElem?_append_right zx]
    simpa using h4
  cases e with
  | normal => exact fin h1
  | ret => exact fin h1
  | _ => exact h1.elim
end
def QP (P : Program) (rs : List ResultVar) (post : V → List (Nat × Row) → List V → Prop) : Exit → S → Prop
  | .normal, s => ∃ vs, uX P s rs vs ∧ post (zZ vs) s.H s.K
  | .ret, s => ∃ vs, uX P s rs vs ∧ post (zZ vs) s.H s.K
  | _, _ => False
def gF (s : S) (l : List Nat) (d : Option Tmp) (v : V) (H : List (Nat × Row)) (K : List V) : S := S.put ⟨s.n, l.zip K, H, K.drop l.length⟩ d v
def PC (P : Program) (f : FuncId) (args : List V) (H : List (Nat × Row)) (K : List V) (post : V → List (Nat × Row) → List V → Prop) : Prop :=
  ∀ (c : Cx) (s : S) (o : Oper) (fx : Operand) (xs : Array Operand) (tys : Array TypeId) (l : List Nat) (ts : List V), c.P = P → o.op = .call { callee := .value fx, args := xs, argTypes := tys } → s.ev fx = some (.fn f []) → xs.toList.map s.ev = args.map some →
    l.map (fun i => fnd s.T i) = ts.map some → s.H = H → ts ++ s.K = K → dok s o = true → vm c o s (fun s' => ∃ v H' K', post v H' K' ∧ s' = gF s l o.dst v H' K')
def PM (P : Program) (t : TypeId) (v : V) (name : String) (args : List V) (H : List (Nat × Row)) (K : List V) (post : V → List (Nat × Row) → List V → Prop) : Prop :=
  ∀ (c : Cx) (s : S) (o : Oper) (rx : Operand) (xs : Array Operand) (tys : Array TypeId) (l : List Nat) (ts : List V), c.P = P → o.op = .call { callee := .invoke rx name, args := xs, argTypes := tys } → s.ev rx = some (.ifc t v) → xs.toList.map s.ev = args.map some →
    l.map (fun i => fnd s.T i) = ts.map some → s.H = H → ts ++ s.K = K → dok s o = true → vm c o s (fun s' => ∃ v H' K', post v H' K' ∧ s' = gF s l o.dst v H' K')
theorem QP.toQI {P : Program} {post : V → List (Nat × Row) → List V → Prop} {s : S} {l : List Nat} {d : Option Tmp} {e : Exit} {s1 : S} (h : QP P rs post e s1) : QI P rs s.n l d (fun s' => ∃ v H' K', post v H' K' ∧ s' = gF s l d v H' K') e s1 := by
  cases e with
  | normal => obtain ⟨vs, h1, h2⟩ := h; exact ⟨vs, h1, _, _, _, h2, rfl⟩
  | ret => obtain ⟨vs, h1, h2⟩ := h; exact ⟨vs, h1, _, _, _, h2, rfl⟩
  | _ => exact h.elim
theorem PC.intro {P : Program} {f : FuncId} {fn : Func} {code : Code} {n : Nat} {rs : List ResultVar} {args : List V} {H : List (Nat × Row)} {K : List V} {post : V → List (Nat × Row) → List V → Prop} (hf : Is P f fn code n rs) (hn : args.length ≤ n)
    (h : ∀ w0 out kx, AW ⟨P, w0, out, kx, []⟩ code (QP P rs post) ⟨n, vV 0 args, H, K⟩) : PC P f args H K post := by
  intro c s o fx xs tys l ts hP ho wc xJ hts hH hK hd; subst hP hH hK
  refine ju3 l hts hf hn hd (fun g a w hs => ?_) (fun kx => (h c.w0 c.out kx).mono fun e s1 hq => hq.toQI)
  obtain ⟨cs, hfv, xM, _⟩ := bI hs wc; obtain rfl : cs = [] := by cases cs with | nil => rfl | cons => simp at xM
  exact ⟨_, by rw [wj (caps := []) hf ho hfv, append_nil], uv hs xJ⟩
section
variable {c : Cx} {s : S} {o : Oper} {Q : Exit → S → Prop} {ops : Array Oper} {rest : List Oper}
theorem qQ {P : Program} {args : List V} {K : List V} {post : V → List (Nat × Row) → List V → Prop} {fx : Operand} {xs : Array Operand} {tys : Array TypeId} (l : List Nat) {ts : List V} (h : PC P f args H K post) (hg : o.guard = none) (hP : c.P = P) (ho : o.op = .call { callee := .value fx, args := xs, argTypes := tys }) (wc : s.ev fx = some (.fn f [])) (xJ : xs.toList.map s.ev = args.map some)
    (hts : l.map (fun i => fnd s.T i) = ts.map some) (hH : s.H = H) (hK : ts ++ s.K = K) (hd : dok s o = true) (hN : ∀ v H' K', post v H' K' → AL c ops rest Q (gF s l o.dst v H' K')) : AL c ops (o :: rest) Q s :=
  qN hg fun g a w hs K' Q' hK' => h c s o fx xs tys l ts hP ho wc xJ hts hH hK hd g a w hs K' Q' fun g' s' a' w' ⟨v, H', K2, h1, h2⟩ h3 => hK' g' s' a' w' (by subst h2; exact hN _ _ _ h1) h3
structure Lw (H : List (Nat × Row)) (K : List V) : Prop where
  obj : ∀ x ∈ H, x.1 < 900 ∧ V.lowL 901 x.2.cells = true
  keep : V.lowL 901 K = true
theorem Lw.all {H : List (Nat × Row)} {K : List V} (h : Lw H K) : ∀ r, 901 ≤ r → H.all (fun x => x.1 != r && !V.hasL r x.2.cells) = true := fun r hr => by
  rw [all_eq_true]; intro x hx; obtain ⟨h1, h2⟩ := h.obj x hx; rw [V.lowL_has hr _ h2]; simp; omega
theorem Lw.has {K : List V} (h : Lw H K) : ∀ r, 901 ≤ r → V.hasL r K = false := fun r hr => V.lowL_has hr _ h.keep
theorem Lw.fnd {H : List (Nat × Row)} {K : List V} (h : Lw H K) : ∀ r, 900 ≤ r → Go.Proofs.YthiknkcigcglkaaGreatDoor.fnd H r = none := fun r hr => by
  cases hh : Go.Proofs.YthiknkcigcglkaaGreatDoor.fnd H r with
  | none => rfl
  | some row => have := (h.obj _ (vo hh)).1; simp only at this; omega
theorem Lw.forgetK {K : List V} (h : Lw H K) : ∀ r, 901 ≤ r → K.map (zV r) = K := fun r hr => by
  have h1 := V.hasL_false.1 (h.has r hr)
  have : ∀ (l : List V), (∀ v ∈ l, v.has r = false) → l.map (zV r) = l := by
    intro l
    induction l with
    | nil => intro _; rfl
    | cons v l ih =>
      intro hl
      rw [map_cons, ih fun v hv => hl v (by simp [hv]), zV, if_neg (by rw [hl v zx]; simp)]
  exact this K h1
theorem Lw.forgetH {K : List V} (h : Lw H K) : ∀ r, 901 ≤ r → (H.filter (fun x => x.1 != r)).map (fun x => (x.1, { x.2 with cells := if V.hasL r x.2.cells then x.2.cells.map (zV r) else x.2.cells })) = H := fun r hr => by
  have : ∀ (l : List (Nat × Row)), (∀ x ∈ l, x.1 < 900 ∧ V.lowL 901 x.2.cells = true) → (l.filter (fun x => x.1 != r)).map (fun x => (x.1, { x.2 with cells := if V.hasL r x.2.cells then x.2.cells.map (zV r) else x.2.cells })) = l := by
    intro l
    induction l with
    | nil => intro _; rfl
    | cons x l ih =>
      intro hl; obtain ⟨h1, h2⟩ := hl x zx
      rw [filter_cons, if_pos (by simp; omega), map_cons, ih fun x hx => hl x (by simp [hx]), V.lowL_has hr _ h2]
      simp
  exact this H h.obj
theorem Less.hp {s : S} {T : List (Nat × V)} {b r : Row} (hT : LT s T) (h1 : fnd s.H 900 = some b) (h2 : fnd s.H 901 = some r) (h3 : ∀ k row, fnd H0 k = some row → fnd s.H k = some row) : Less ⟨s.n, T, (900, b) :: (901, r) :: H0, s.K⟩ s := by
  refine ⟨rfl, fun i v h => hT.get i v h, fun k row h => ⟨row, ?_, rfl, rfl, rfl, fun j v hv => ⟨v, hv, .refl _⟩⟩, fun j v h => ⟨v, h, .refl _⟩⟩
  simp only [fnd] at h
  split at h
  · grind
  grind
theorem Lw.low {K : List V} (h : Lw H K) {T : List (Nat × Row)} (hT : T.all (fun x => decide (900 ≤ x.1)) = true) : ∀ k row, Go.Proofs.YthiknkcigcglkaaGreatDoor.fnd H k = some row → Go.Proofs.YthiknkcigcglkaaGreatDoor.fnd (T ++ H) k = some row := fun k row hk => by
  have zk : k < 900 := (h.obj _ (vo hk)).1
  induction T with
  | nil => exact hk
  | cons x T ih =>
    simp only [all_cons, and_eq_true, decide_eq_true_eq] at hT; obtain ⟨i, y⟩ := x; simp only at hT; simp only [cons_append, Go.Proofs.YthiknkcigcglkaaGreatDoor.fnd]; rw [if_neg (by simp; omega)]; exact ih hT.2
theorem Lw.keepL {K : List V} (h : Lw H K) (ts : List V) (ht : V.lowL 901 ts = true) : Lw H (ts ++ K) := ⟨h.obj, by
  have : ∀ (l : List V), V.lowL 901 l = true → V.lowL 901 (l ++ K) = true := by
    intro l
    induction l with
    | nil => intro _; exact h.keep
    | cons v l ih =>
      intro hl; simp only [V.lowL, and_eq_true] at hl; simp only [cons_append, V.lowL, and_eq_true]; exact ⟨hl.1, ih hl.2⟩
  exact this ts ht⟩
theorem jF1 {t t' : TypeId} {x y : Operand} {m n : Int} (z : Int) (ho : o.op = .binOp .sub t x y t') (hx : s.ev x = some (.i m)) (hy : s.ev y = some (.i n)) (h : -9223372036854775808 ≤ m - n ∧ m - n ≤ 9223372036854775807) (hz : m - n = z) : RP c o s (.i z) := by
  subst hz; exact jh1 ho hx hy h
theorem S.clean_hp {n r : Nat} {T : List (Nat × V)} {L : List (Nat × Row)} {K : List V} (hl : Lw H0 K) (hr : 901 ≤ r) (hT : T.all (fun x => !x.2.has r) = true) (hL : L.all (fun x => x.1 != r && !V.hasL r x.2.cells) = true) : S.clean ⟨n, T, L ++ H0, K⟩ r = true := by
  simp only [S.clean, List.all_append, hT, hL, hl.all r hr, hl.has r hr]; rfl
def QPW (P : Program) (rs : List ResultVar) (post : V → List (Nat × Row) → List V → Prop) : Exit → S → Prop
  | .normal, s => ∃ s', Less s' s ∧ QP P rs post .normal s'
  | .ret, s => ∃ s', Less s' s ∧ QP P rs post .ret s'
  | _, _ => False
theorem AW.weaken {P : Program} {post : V → List (Nat × Row) → List V → Prop} {x : Code} (h : AW c x (QPW P rs post) s) : AW c x (QP P rs post) s := fun g a w hs => wp_mono (h g a w hs) fun e a' w' hq => by
  obtain ⟨g', s1, h1, h3⟩ := hq
  cases e <;> first | (obtain ⟨s2, h4, h5⟩ := h1; exact ⟨g', s2, h5, h3.less h4⟩) | exact h1.elim
end
section
variable {P : Program} {ops : Array Oper} {Q : Exit → Act → World → Prop} {md : Region.Mode} {T : World → Prop} {need : Nat → Bool}
def qU1 (P : Program) (md : Region.Mode) (ops : Array Oper) (Q : Exit → Act → World → Prop) (T : World → Prop) (need : Nat → Bool) : Nat → Array Bool → Act → World → Prop
  | 0, listed, a, w => Region.ready md ops listed = [] ∧ Q .normal a w
  | n + 1, listed, a, w => (Region.ready md ops listed = [] → Q .normal a w) ∧
      ∀ i ∈ Region.ready md ops listed, wpOp P ops Q i (fun a' w' => (need i = true → T w → T w') ∧ qU1 P md ops Q T need n (listed.setIfInBounds i true) a' w') a w
theorem qb2 : ∀ (n : Nat) (listed : Array Bool) (a : Act) (w : World), qU1 P md ops Q T need n listed a w → wpAny P md ops Q n listed a w
  | 0, _, _, _, h => h
  | n + 1, _, _, _, h => ⟨h.1, fun i hi => wpOp_mono (fun a' w' h' => qb2 n _ a' w' h'.2) (h.2 i hi)⟩
theorem jd5 {listed : Array Bool} {i : Nat} (hr : i ∈ Region.ready md ops listed) : listed.getD i false = false := by
  have vr := (mem_ready.1 hr).1; rw [Array.getD_eq_getD_getElem?] at vr ⊢
  cases hl : listed[i]? with
  | none => rw [hl] at vr; cases vr
  | some b => rw [hl] at vr; exact vr
theorem qy2 {i : Nat} {oi : Oper} {v : Value} {S : World → Prop} (hk : (k = 2 ∧ S = fun _ => True) ∨ (k = 1 ∧ S = T ∧ ∀ j, j ≠ i → j < ops.size → need j = true ∨ uZ md ops N j i = true)) (hi : ops[i]? = some oi) (yg : ∀ (j : Nat) (o : Oper) cs b, ops[j]? = some o → o.op ≠ .select cs b)
    (hQ : ∀ c a w, Q (.panic c) (a.put oi.dst v) w → Q (.panic c) a w) (n : Nat) :
    ∀ (listed : Array Bool) (a : Act) (w : World), uE md ops listed →
      (∀ j oj, ops[j]? = some oj → j ≠ i → listed.getD j true = false → (∀ e ∈ oj.after, Region.binds md e = true → e.on ≠ i) → oi.apart ops oj = true) →
      i ∈ Region.ready md ops listed → YieldsIf P ops S oi v a → S w →
      qU1 P md ops Q T need n (listed.setIfInBounds i true) (a.put oi.dst v) w → qU1 P md ops Q T need (n + 1) listed a w := by
  induction n with
  | zero =>
    intro listed a w xM gV hr hy hS H; refine ⟨fun h => by rw [h] at hr; exact absurd hr not_mem_nil, fun j hj => ?_⟩
    by_cases hji : j = i
    · subst hji
      exact hy.wpOp hi hS ⟨fun _ h => h, H⟩
    have hm := ready_mono hj hji; rw [H.1] at hm; exact absurd hm not_mem_nil
  | succ n ih =>
    intro listed a w xM gV hr hy hS H; refine ⟨fun h => by rw [h] at hr; exact absurd hr not_mem_nil, fun j hj => ?_⟩
    by_cases hji : j = i
    · subst hji
      exact hy.wpOp hi hS ⟨fun _ h => h, H⟩
    have hij : i ≠ j := fun h => hji h.symm
    have wO := H.2 j (ready_mono hj hji); obtain ⟨vJ, oj, hoj, yS⟩ := mem_ready.1 hj; have k38 := jd5 hr; have vO : ∀ e ∈ oj.after, Region.binds md e = true → e.on ≠ i := by grind
    have yT := wpOp_putIf hoj (gV j oj hoj hji vJ vO) (fun cs b => yg i oi cs b hi) (fun cs b => yg j oj cs b hoj) hQ hy wO
    refine wpOp_mono (fun a' w' h3 => ?_) yT; obtain ⟨hy', hS', jB1⟩ := h3; have hSw : S w' := by grind [Array.getElem?_eq_some_iff, qq5]
    refine ⟨hS', ih _ a' w' (wx xM hj) ?_ (ready_mono hr hij) hy' hSw ?_⟩
    · intro k ok hk hki hkl xU
      refine gV k ok hk hki ?_ xU
      by_cases hjk : j = k
      · subst hjk
        exact vJ
      rwa [getD_set_ne true hjk] at hkl
    grind [Array.setIfInBounds_comm]
def q88 (P : Program) (ops : Array Oper) (Q : Exit → Act → World → Prop) (T : World → Prop) (need : Nat → Bool) : List (Nat × Nat) → Act → World → Prop
  | [], a, w => Q .normal a w
  | (i, 0) :: r, a, w => wpOp P ops Q i (fun a' w' => (need i = true → T w → T w') ∧ q88 P ops Q T need r a' w') a w
  | (i, 1) :: r, a, w => ∃ oi x, ops[i]? = some oi ∧ YieldsIf P ops T oi x a ∧ T w ∧ (∀ c a w, Q (.panic c) (a.put oi.dst x) w → Q (.panic c) a w) ∧ q88 P ops Q T need r (a.put oi.dst x) w
  | (i, _ + 2) :: r, a, w => ∃ oi x, ops[i]? = some oi ∧ YieldsIf P ops (fun _ => True) oi x a ∧ (∀ c a w, Q (.panic c) (a.put oi.dst x) w → Q (.panic c) a w) ∧ q88 P ops Q T need r (a.put oi.dst x) w
def okF (md : Region.Mode) (ops : Array Oper) (need : Nat → Bool) (N : Nat) : List (Nat × Nat) → Array Bool → Bool
  | [], listed => (Region.ready md ops listed).isEmpty
  | (i, 0) :: r, listed => (Region.ready md ops listed == [i]) && okF md ops need N r (listed.setIfInBounds i true)
  | (i, 1) :: r, listed => (Region.ready md ops listed).contains i && Region.free md ops listed i && ((List.range ops.size).all fun j => j == i || need j || uZ md ops N j i) && okF md ops need N r (listed.setIfInBounds i true)
  | (i, _ + 2) :: r, listed => (Region.ready md ops listed).contains i && Region.free md ops listed i && okF md ops need N r (listed.setIfInBounds i true)
theorem qd1 {N : Nat} (yg : Region.noSelect ops = true) : ∀ (l : List (Nat × Nat)) (listed : Array Bool) (a : Act) (w : World), uE md ops listed → okF md ops need N l listed = true → q88 P ops Q T need l a w → qU1 P md ops Q T need l.length listed a w
  | [], listed, a, w, _, x6, h => ⟨by simpa [okF] using x6, h⟩
  | (i, 0) :: r, listed, a, w, xM, x6, h => by
    simp only [okF, and_eq_true, beq_iff_eq] at x6; obtain ⟨h1, h2⟩ := x6; have hr : i ∈ Region.ready md ops listed := by rw [h1]; exact List.mem_singleton.2 rfl
    refine ⟨fun h0 => (by rw [h0] at h1; cases h1), fun j hj => ?_⟩; rw [h1] at hj; obtain rfl := List.mem_singleton.1 hj
    exact wpOp_mono (fun a' w' h' => ⟨h'.1, qd1 yg r _ a' w' (wx xM hr) h2 h'.2⟩) h
  | (i, 1) :: r, listed, a, w, xM, x6, h => by
    simp only [okF, and_eq_true, all_eq_true, List.mem_range, Bool.or_eq_true, beq_iff_eq] at x6; obtain ⟨⟨⟨h1, h2⟩, h3⟩, h4⟩ := x6; obtain ⟨oi, x, g1, g2, g3, g4, g5⟩ := h; have hr : i ∈ Region.ready md ops listed := by simpa using h1
    refine qy2 (k := 1) (N := N) (S := T) (.inr ⟨rfl, rfl, fun j hj zk => ?_⟩) g1 (Region.noSelect_spec yg) g4 r.length listed a w xM (Region.free_spec g1 h2) hr g2 g3 (qd1 yg r _ _ w (wx xM hr) h4 g5)
    rcases h3 j zk with (h | h) | h
    · exact absurd h hj
    · exact .inl h
    exact .inr h
  | (i, m + 2) :: r, listed, a, w, xM, x6, h => by
    simp only [okF, and_eq_true] at x6; obtain ⟨⟨h1, h2⟩, h4⟩ := x6; obtain ⟨oi, x, g1, g2, g4, g5⟩ := h; have hr : i ∈ Region.ready md ops listed := by simpa using h1
    exact qy2 (k := 2) (N := N) (S := fun _ => True) (.inl ⟨rfl, rfl⟩) g1 (Region.noSelect_spec yg) g4 r.length listed a w xM (Region.free_spec g1 h2) hr g2 trivial (qd1 yg r _ _ w (wx xM hr) h4 g5)
end
section
variable {c : Cx} {s : S} {Q : Exit → S → Prop} {ops : Array Oper} {L : List Oper} {need : Nat → Bool} {l : List (Nat × Nat)} {i : Nat} {o : Oper}
def AF1 (c : Cx) (ops : Array Oper) (Q : Exit → S → Prop) (need : Nat → Bool) (l : List (Nat × Nat)) (s : S) : Prop := ∀ g a w, Sim c g s a w → q88 c.P ops (QQ c Q) (Below w.heap.size w) need l a w
def AF2 (c : Cx) (ops : Array Oper) (Q : Exit → S → Prop) (need : Nat → Bool) (l : List (Nat × Nat)) (s : S) : Prop := ∀ W g a w, Sim c g s a w → Below W.heap.size W w → q88 c.P ops (QQ c Q) (Below W.heap.size W) need l a w
def AF3 (c : Cx) (ops : Array Oper) (Q : Exit → S → Prop) (need : Nat → Bool) (l : List (Nat × Nat)) (s : S) : Prop := ∀ (T : World → Prop) g a w, Sim c g s a w → q88 c.P ops (QQ c Q) T need l a w
theorem jk {id : Nat} {l : List Oper} (order : List (Nat × Nat)) (need : Nat → Bool) (N : Nat) (hm : c.P.follows .mixedOrders = true) (yg : Region.noSelect l.toArray = true) (zI : order.length = l.length)
    (x6 : okF .any l.toArray need N order (Array.replicate l.length false) = true) (h : AF1 c l.toArray Q need order s) : AW c (.region id l.toArray true) Q s := by
  intro g a w hs; refine wp_region_any hm ?_; have hs' : Sim c g s a w.drew := hs.move (Below.drew (Below.refl _ _))
  have := qb2 _ _ _ _ (qd1 (P := c.P) (Q := QQ c Q) (T := Below w.drew.heap.size w.drew) (need := need) (md := .any) yg order (Array.replicate l.length false) a w.drew (by
    intro j oj _ hl; rw [Array.getD_eq_getD_getElem?, Array.getElem?_replicate] at hl
    split at hl <;> simp at hl) x6 (h g a _ hs'))
  rw [zI] at this
  simpa using this
theorem AF1.rd {v : V} (hi : L[i]? = some o) (hg : o.guard = none) (hd : dok s o = true) (hp : noP Q) (h : RD c o s v) (hN : AF1 c L.toArray Q need l (s.put o.dst v)) : AF1 c L.toArray Q need ((i, 1) :: l) s := fun g a w hs => by
  obtain ⟨x, h1, h2⟩ := h g a w hs; exact ⟨o, x, by simpa using hi, .inl ⟨by simp [Region.wanted, hg], h2⟩, Below.refl _ _, yu hp _ _, hN g _ w (hs.put o.dst (zJ hd) h1)⟩
theorem qS {v : V} (hi : L[i]? = some o) (hg : o.guard = none) (hd : dok s o = true) (hp : noP Q) (h : RP c o s v) (hN : AF1 c L.toArray Q need l (s.put o.dst v)) : AF1 c L.toArray Q need ((i, 2) :: l) s := fun g a w hs => by
  obtain ⟨x, h1, h2⟩ := h g a w hs
  exact ⟨o, x, by simpa using hi, .inl ⟨by simp [Region.wanted, hg], fun w' _ => h2 w'⟩, yu hp _ _, hN g _ w (hs.put o.dst (zJ hd) h1)⟩
theorem jm (h : AF2 c L.toArray Q need l s) : AF1 c L.toArray Q need l s := fun g a w hs => h w g a w hs (Below.refl _ _)
theorem qT {v : V} (hi : L[i]? = some o) (hg : o.guard = none) (hd : dok s o = true) (hp : noP Q) (h : RP c o s v) (hN : AF2 c L.toArray Q need l (s.put o.dst v)) : AF2 c L.toArray Q need ((i, 2) :: l) s := fun W g a w hs hb => by
  obtain ⟨x, h1, h2⟩ := h g a w hs
  exact ⟨o, x, by simpa using hi, .inl ⟨by simp [Region.wanted, hg], fun w' _ => h2 w'⟩, yu hp _ _, hN W g _ w (hs.put o.dst (zJ hd) h1) hb⟩
theorem k9 (hi : L[i]? = some o) (hg : o.guard = none) (h : StepM c o s (AF2 c L.toArray Q need l)) : AF2 c L.toArray Q need ((i, 0) :: l) s := fun W g a w hs hb =>
  u6 (by simpa using hi) hg (h g a w hs _ _ fun g' s' a' w' h1 h2 h3 => ⟨fun _ _ => hb.trans (h3.mono hb.size), h1 W g' a' w' h2 (hb.trans (h3.mono hb.size))⟩)
theorem qX {post : V → Prop} (hi : L[i]? = some o) (hg : o.guard = none) (h : StepM c o s (fun s' => ∃ v, post v ∧ v.pure ∧ s' = s.put o.dst v)) (hN : ∀ v, post v → v.pure → AF2 c L.toArray Q need l (s.put o.dst v)) : AF2 c L.toArray Q need ((i, 0) :: l) s :=
  k9 hi hg fun g a w hs K Q' hK => h g a w hs K Q' fun g' s' a' w' ⟨v, h1, h2, e⟩ h3 h4 => hK g' s' a' w' (by subst e; exact hN v h1 h2) h3 h4
theorem jn (h : AF3 c L.toArray Q need l s) : AF2 c L.toArray Q need l s := fun W g a w hs _ => h _ g a w hs
theorem jC (hi : L[i]? = some o) (hg : o.guard = none) (hn : need i = false) (h : vm c o s (AF3 c L.toArray Q need l)) : AF3 c L.toArray Q need ((i, 0) :: l) s := fun T g a w hs =>
  u6 (by simpa using hi) hg (h g a w hs _ _ fun g' s' a' w' h1 h2 => ⟨fun h0 => (by rw [hn] at h0; cases h0), h1 T g' a' w' h2⟩)
theorem kc {X : S} (hi : L[i]? = some o) (hg : o.guard = none) (hn : need i = false) (h : vm c o s (fun s' => s' = X)) (hN : AF3 c L.toArray Q need l X) : AF3 c L.toArray Q need ((i, 0) :: l) s :=
  jC hi hg hn fun g a w hs K Q' hK => h g a w hs K Q' fun g' s' a' w' e h1 => hK g' s' a' w' (by subst e; exact hN) h1
theorem jz (h : Q .normal s) : AF3 c L.toArray Q need [] s := fun T g a w hs => ⟨g, s, h, hs⟩
end
section
variable {c : Cx} {s : S} {o : Oper} {g : Nat → Nat × Nat} {a : Act} {w : World}
theorem qU2 {x : Operand} {t : TypeId} {r sz n : Nat} (ho : o.op = .call { callee := .builtin .unsafeSliceData, args := #[x], argTypes := #[t] }) (hx : s.ev x = some (.own r sz n false)) (hn : 0 < n) : RP c o s (.ref r 0) := fun g a w hs => by
  have hx' : ∃ cap, a.eval x = .slice (some ⟨(g r).1, 0, none⟩) n cap ∧ cap ≠ 0 := by
    have h := hs.ev hx; generalize a.eval x = u at h
    cases h with
    | own _ _ _ h1 h2 => exact ⟨_, rfl, by omega⟩
  obtain ⟨cap, hxe, hc⟩ := hx'; refine ⟨.pointer (some ⟨(g r).1, 0, none⟩), .ref r 0, fun w' => ?_⟩; simp only [execOp, ho, resolve, invoke, builtin, Sem.run_bind, Sem.run_pure, Result.andThen_ok, map_toArray, map_cons, map_nil, hxe, Lib.run_unsafeSliceData_row _ _ _ _ _ _ hc]
theorem qM6 {x : Operand} {t : TypeId} {r sz n : Nat} (ho : o.op = .call { callee := .builtin .unsafeSliceData, args := #[x], argTypes := #[t] }) (hx : s.ev x = some (.own r sz n true)) : RP c o s (.d (.p (.pointer none))) := fun g a w hs => by
  have hx' : a.eval x = .slice none 0 0 := by
    have h := hs.ev hx; generalize a.eval x = u at h
    cases h with
    | ownNil => rfl
  refine ⟨.pointer none, .d _ _ (.p _), fun w' => ?_⟩; simp only [execOp, ho, resolve, invoke, builtin, Sem.run_bind, Sem.run_pure, Result.andThen_ok, map_toArray, map_cons, map_nil, hx', Lib.run_unsafeSliceData_nil]
theorem ju4 {x y : Operand} {t u : TypeId} {n' : Int} (ho : o.op = .call { callee := .builtin .unsafeString, args := #[x, y], argTypes := #[t, u] }) (hx : s.ev x = some (.d (.p (.pointer none)))) (hy : s.ev y = some (.i n')) (hn : n' = 0) : RP c o s (.s ⟨#[]⟩) := fun g a w hs => by
  subst hn; refine ⟨.string ⟨#[]⟩, .d _ _ (.p _), fun w' => ?_⟩; simp only [execOp, ho, resolve, invoke, builtin, Sem.run_bind, Sem.run_pure, Result.andThen_ok, map_toArray, map_cons, map_nil, VRep.p_eq (hs.ev hx), VRep.p_eq (hs.ev hy), Lib.run_unsafeString_none]; rfl
theorem j21 (w : World) (a b : Addr) (n : Nat) : (w.freeze a n).cell? b = w.cell? b := by
  unfold World.freeze
  split
  · rfl
  simp only [World.cell?, Array.getElem?_modify]
  by_cases h : a.block = b.block
  · grind
  rw [if_neg h]
theorem k61 (g j : Nat) : (⟨g, 0, none⟩ : Addr).add j = ⟨g, j, none⟩ := by
  unfold Addr.add
  split
  · rename_i h; simp [h]
  simp
theorem q41 (w : World) (a : Addr) (n k : Nat) (h : k ≠ a.block) : (w.freeze a n).heap[k]? = w.heap[k]? := by
  unfold World.freeze
  split
  · rfl
  grind
theorem j22 (w : World) (a : Addr) (n : Nat) : (w.freeze a n).heap.size = w.heap.size := by
  unfold World.freeze
  split
  · rfl
  simp
theorem Sim.frzStr (hs : Sim c g s a w) {r : Nat} {row : Row} (hr : fnd s.H r = some row) (hn : row.nil = false) (n : Nat) : Sim c g ⟨s.n, s.T, s.H.filter (fun x => x.1 != r), s.K⟩ a (w.freeze ⟨(g r).1, 0, none⟩ n) := by
  obtain ⟨arr0, h0, _, _⟩ := hs.obj r row hr hn
  have xY : ∀ k row', fnd (s.H.filter (fun x => x.1 != r)) k = some row' → k ≠ r ∧ fnd s.H k = some row' := by
    intro k row' hk; have e : k ≠ r := by rintro rfl; rw [yj] at hk; cases hk
    rw [yA r _ _ e] at hk; exact ⟨e, hk⟩
  have hq : ∀ b, qt c s.H g b → b < w.heap.size → qt c (s.H.filter (fun x => x.1 != r)) g b := fun b hb _ => ⟨hb.1, fun k row' hk hn => hb.2 k row' (xY k row' hk).2 hn⟩
  have hw : Cells w (w.freeze ⟨(g r).1, 0, none⟩ n) (qt c s.H g) := ⟨by rw [j22]; exact le_refl _, fun b o u _ _ h => by rw [j21]; exact h, fun b es zT hm => by
    rw [q41]
    · exact hm
    intro e; simp only at e; rw [e, h0] at hm
    cases hm
    exact zT _ _ _ rfl⟩
  have hm : ∀ {v x}, VRep w (qt c s.H g) g v x → VRep (w.freeze ⟨(g r).1, 0, none⟩ n) (qt c (s.H.filter (fun x => x.1 != r)) g) g v x := fun hv => hv.mono hw hq (fun _ _ => rfl)
  refine ⟨hs.size, hs.defers, ?_, ?_, ?_, ?_, ?_, ?_, hs.low, Lib.below_freeze hs.below (hs.base r row hr hn) n⟩
  · intro i v hv
    obtain ⟨x, h1, h2⟩ := hs.tmp i v hv; exact ⟨x, h1, hm h2⟩
  · intro k row' hk hn
    exact hs.nul k row' (xY k row' hk).2 hn
  · intro k row' hk xU
    obtain ⟨k1, k2⟩ := xY k row' hk; obtain ⟨arr, h1, h2, h3⟩ := hs.obj k row' k2 xU; refine ⟨arr, ?_, h2, fun j v hv => ?_⟩
    · rw [q41]
      · exact h1
      exact fun e => k1 (hs.inj k r _ _ k2 xU hr hn e)
    grind
  · intro j v x h1 h2
    exact hm (hs.keep j v x h1 h2)
  · intro k k' row row' h1 n1 h2 n2 h3
    exact hs.inj k k' row row' (xY k row h1).2 n1 (xY k' row' h2).2 n2 h3
  intro k row h1 n1; exact hs.base k row (xY k row h1).2 n1
theorem jF2 {x y : Operand} {t u e : TypeId} {r : Nat} {n' : Int} {row : Row} {b : ByteArray} (hu : c.P.underlying t = some (.pointer e)) (hce : c.P.cellsOf e = 1) (ho : o.op = .call { callee := .builtin .unsafeString, args := #[x, y], argTypes := #[t, u] }) (hx : s.ev x = some (.ref r 0)) (hy : s.ev y = some (.i n')) (hn : n' = (b.size : Int)) (hb0 : 0 < b.size) (hb : b.size ≤ 140737488355328)
    (hr : fnd s.H r = some row) (hnl : row.nil = false) (hty : row.ty = e) (vi : row.cells = yK b) (hd : dok s o = true) :
    vm c o s (fun s' => s' = S.put ⟨s.n, s.T, s.H.filter (fun x => x.1 != r), s.K⟩ o.dst (.s b)) := by
  subst hn; intro g a w hs K Q hK
  have hxe : a.eval x = .pointer (some ⟨(g r).1, 0, none⟩) := by
    have h := hs.ev hx; generalize a.eval x = u at h
    cases h; rfl
  obtain ⟨arr, h1, _, h2⟩ := hs.obj r row hr hnl; have zI : b.data.toList.length = b.size := Array.length_toList
  have ux : ∀ j x, b.data.toList[j]? = some x → w.cell? ((⟨(g r).1, 0, none⟩ : Addr).add j) = some (.int .u8 x.toNat) := by
    intro j x hj; obtain ⟨y, h3, h4⟩ := h2 j (.d (.p (.int .u8 (x.toNat : Int)))) (by rw [vi]; simp [yK, hj]); have := cell_of_row w (g r).1 j _ _ _ h1; rw [k61, this, h3, VRep.p_eq h4]
  have wm : b.size ≤ arr.size := by
    obtain ⟨y, h3, _⟩ := h2 (b.size - 1) ((yK b)[b.size - 1]'(by rw [qe7]; omega)) (by rw [vi]; exact List.getElem?_eq_getElem _); have := (Array.getElem?_eq_some_iff.1 h3).1; omega
  have hsh : w.shape? (g r).1 = some (e, arr.size) := by
    simp [World.shape?, h1, hty]
  have zv := Lib.run_unsafeString_row (P := c.P) (w := w) t u o.type e hu hce (g r).1 arr.size hsh b.data.toList (by intro h0; rw [h0] at zI; simp at zI; omega) zg zg ux; have hba : (⟨b.data.toList.toArray⟩ : ByteArray) = b := by cases b; simp
  rw [zI, hba] at zv; unfold Oper.wp
  have xP : (execOp a.eval o).run c.P w = .ok (.value (.string b)) (w.freeze ⟨(g r).1, 0, none⟩ b.size) := by
    simp only [execOp, ho, resolve, invoke, builtin, Sem.run_bind, Sem.run_pure, Result.andThen_ok, map_toArray, map_cons, map_nil, hxe, VRep.p_eq (hs.ev hy), zv]
  rw [xP]; exact hK g _ _ _ rfl ((hs.frzStr hr hnl b.size).put o.dst (zJ (s := s) hd) (.d _ _ (.p _)))
end
section
variable {c : Cx} {s : S} {o : Oper} {t t' : TypeId} {x y : Operand} {m n : Int}
theorem jF3 (z : Int) (ho : o.op = .binOp .add t x y t') (hx : s.ev x = some (.i m)) (hy : s.ev y = some (.i n)) (hz : m + n = z) (h : -9223372036854775808 ≤ z ∧ z ≤ 9223372036854775807) : RP c o s (.i z) := by subst hz; exact qw0 ho hx hy h
end
section
variable {c : Cx} {s : S} {o : Oper} {Q : Exit → S → Prop} {L : List Oper} {need : Nat → Bool} {i : Nat} {r : List (Nat × Nat)}
theorem jD {P : Program} {args : List V} {K : List V} {post : V → List (Nat × Row) → List V → Prop} {fx : Operand} {xs : Array Operand} {tys : Array TypeId} (hi : L[i]? = some o) (hn : need i = false) (l : List Nat) {ts : List V} (h : PC P f args H K post) (hg : o.guard = none) (hP : c.P = P) (ho : o.op = .call { callee := .value fx, args := xs, argTypes := tys }) (wc : s.ev fx = some (.fn f [])) (xJ : xs.toList.map s.ev = args.map some)
    (hts : l.map (fun i => fnd s.T i) = ts.map some) (hH : s.H = H) (hK : ts ++ s.K = K) (hd : dok s o = true) (hN : ∀ v H' K', post v H' K' → AF3 c L.toArray Q need r (gF s l o.dst v H' K')) : AF3 c L.toArray Q need ((i, 0) :: r) s :=
  jC hi hg hn fun g a w hs K' Q' hK' => h c s o fx xs tys l ts hP ho wc xJ hts hH hK hd g a w hs K' Q' fun g' s' a' w' ⟨v, H', K2, h1, h2⟩ h3 => hK' g' s' a' w' (by subst h2; exact hN _ _ _ h1) h3
end
theorem jj2 (a b : ByteArray) : (a == b) = decide (a = b) := by
  cases a with | mk x =>
  cases b with | mk y =>
  show (x == y) = _
  by_cases h : x = y
  · subst h; simp
  grind
section
variable {c : Cx} {s : S} {o : Oper} {g : Nat → Nat × Nat} {a : Act} {w : World} {Q : Exit → S → Prop}
section
variable {K : Type} [DecidableEq K] {enc : K → Value}
end
end
section
variable (y : Bool) (r r' : Nat) (l : List (Value × Value))
end
section
variable {c : Cx} {s : S} {o : Oper}
end
def vu (n : Nat) : ByteArray := ⟨(Lib.decDigits n).toArray⟩
end Go.Proofs.YthiknkcigcglkaaGreatDoor
