/- Part 2 of what the law SameSames rests on. -/
import Derived.Laws.CopyRow
import Derived.Laws.MakeOwn
import Derived.Maps.AppendAt
import Derived.Laws.BytesArg
import Derived.Laws.BitsAllLaws
import Derived.Test.YthiknkcigcglkaaGreatDoorPkSS1
namespace Go.Proofs.YthiknkcigcglkaaGreatDoor
open Go.RowKit
open List (append_assoc append_nil ext_getElem? filter_cons length_cons length_map map_cons map_nil map_set map_toArray mem_of_getElem? zipIdx_cons zip_cons_cons)
open Nat (le_refl lt_of_lt_of_le zero_add)
open Option (getD_some map_some)
set_option linter.unusedSimpArgs false
set_option linter.unusedVariables false
set_option maxRecDepth 100000
set_option maxHeartbeats 8000000
variable {i x y : Operand} {row row' : Row} {G bt j sz : Nat} {z : Value} {m n' : Int} {ps : Array (Nat × Operand)} {k' kd : IntKind} {fn : Func} {rs : List ResultVar} {f : FuncId} {code e t : Code} {b b' : Bool} {P : Program} {p : Prop} {ops : Array Oper} {rest : List Oper}
def V.cs : V → List V
  | .agg l => l
  | v => [v]
def V.one : V → Bool
  | .d (.p x) => x.oneCell'
  | .d (.sl _ _ _) => true
  | .d (.mp _) => true
  | .d (.mm _) => true
  | .ad _ => true
  | .ref _ _ => true
  | .own _ _ _ _ => true
  | .que _ _ _ _ => true
  | .fn _ _ => true
  | .mp _ _ _ => true
  | .mq _ _ _ => true
  | .ifc _ _ => true
  | .mp2 _ _ _ _ _ _ => true
  | .it _ _ _ _ => true
  | .mit _ _ _ _ _ => true
  | .mm _ _ _ => true
  | _ => false
def V.ok : V → Bool
  | .agg l => l.all V.one
  | v => v.one
section
variable {c : Cx} {s : S} {o : Oper} {g : Nat → Nat × Nat} {a : Act} {w : World} {q : Nat → Prop}
theorem VRep.one {v : V} {x : Value} (h : VRep w q g v x) (ho : v.one = true) : x.oneCell' = true := by
  cases h with
  | d y _ h =>
    cases h with
    | p => exact ho
    | sl => rfl
    | mp => rfl
    | mm => rfl
  | ad => rfl
  | ref => rfl
  | own => rfl
  | ownNil => rfl
  | que => rfl
  | agg => simp [V.one] at ho
  | tup => simp [V.one] at ho
  | fn => rfl
  | mp => rfl
  | mq => rfl
  | ifc => rfl
  | mp2 => rfl
  | it => rfl
  | mit => rfl
  | mm => rfl
  | blk => simp [V.one] at ho
  | junk => simp [V.one] at ho
theorem qG9 {x : Value} (h : x.oneCell' = true) : x.cells = #[x] := by
  cases x <;> first | rfl | (simp [Value.oneCell'] at h)
theorem VRep.cells {v : V} {x : Value} (h : VRep w q g v x) (ho : v.ok = true) :
    ∃ cs : List Value, x.cells = cs.toArray ∧ v.cs.length = cs.length ∧ (∀ (j : Nat) (u : V) (y : Value), v.cs[j]? = some u → cs[j]? = some y → VRep w q g u y) ∧ ∀ y ∈ cs, y.oneCell' = true := by
  by_cases hv : v.one = true
  · have h1 := h.one hv
    refine ⟨[x], by rw [qG9 h1], ?_, ?_, by simpa using h1⟩
    · cases v <;> first | rfl | (simp [V.one] at hv)
    · intro j u y h2 h3
      have hc : v.cs = [v] := by cases v <;> first | rfl | (simp [V.one] at hv)
      rw [hc] at h2
      match j, h2, h3 with
      | 0, h2, h3 =>
        simp only [List.getElem?_cons_zero, Option.some.injEq] at h2 h3; subst h2 h3; exact h
      | n + 1, h2, _ => simp at h2
  · cases v with
    | agg l =>
      cases h with
      | agg _ cs zI h =>
        refine ⟨cs, rfl, zI, h, fun y hy => ?_⟩; obtain ⟨j, hj⟩ := List.getElem?_of_mem hy; have vJ : j < l.length := by rw [zI]; exact (List.getElem?_eq_some_iff.1 hj).1
        have xE : (l.all V.one) = true := ho; exact (h j l[j] y (List.getElem?_eq_getElem vJ) hj).one (List.all_eq_true.1 xE _ (List.getElem_mem vJ))
    | _ => exact absurd ho hv
theorem V.has_cs {r : Nat} {v : V} (h : v.has r = false) : V.hasL r v.cs = false := by
  cases v <;> simp_all [V.cs, V.hasL, V.has]
theorem S.ev_clean {r : Nat} (h : s.clean r = true) {v : V} (hx : s.ev x = some v) : v.has r = false := by
  cases x with
  | tmp t => exact S.clean_tmp h hx
  | const y => simp only [S.ev, Option.some.injEq] at hx; subst hx; rfl
  | global => simp only [S.ev, Option.some.injEq] at hx; subst hx; rfl
  | func f => simp only [S.ev, Option.some.injEq] at hx; subst hx; rfl
def S.newObj (s : S) (r : Nat) (row : Row) (d : Option Tmp) (v : V) : S := { s with H := (r, row) :: s.H }.put d v
def StepG (c : Cx) (o : Oper) (s : S) (r : Nat) (N : S → Prop) : Prop := ∀ g a w, Sim c g s a w → ∀ (K : Act → World → Prop) (Q : Exit → Act → World → Prop),
  (∀ g' s' a' w', N s' → Sim c g' s' a' w' → Below w.heap.size w w' → (∀ k, k ≠ r → g' k = g k) → w.heap.size ≤ (g' r).1 → K a' w') → o.wp c.P a w K Q
theorem StepG.stepM {r : Nat} {N : S → Prop} (h : StepG c o s r N) : StepM c o s N := fun g a w hs K Q hK => h g a w hs K Q fun g' s' a' w' h1 h2 h3 _ _ => hK g' s' a' w' h1 h2 h3
theorem qA9 {r cap : Nat} {v : V} (hr : s.clean r = true) (hnn : row.nil = false) (vi : V.hasL r row.cells = false) (hd : dok s o = true)
    (h : ∀ g a w, Sim c g s a w → ∃ (cs : Array Value) (x : Value), (row.sz ≠ 0 → cs.size = cap * row.sz) ∧ (execOp a.eval o).run c.P w = .ok (.value x) (w.alloc (.cells cs row.ty)) ∧ (∀ (j : Nat) (u : V), row.cells[j]? = some u → ∃ y, cs[j]? = some y ∧ VRep w (qt c s.H g) g u y) ∧
      VRep (w.alloc (.cells cs row.ty)) (fun _ => True) (fun _ => (w.heap.size, cap)) v x) (hv : ∃ k, v = .ref r k ∨ ∃ sz n, v = .own r sz n false) : StepG c o s r (fun s' => s' = s.newObj r row o.dst v) := by
  intro g a w hs K Q hK; obtain ⟨cs, x, h0, h1, h2, h3⟩ := h g a w hs; obtain ⟨h4, h5⟩ := hs.new hr hnn vi h0 h2; unfold Oper.wp; rw [h1]
  refine hK _ _ _ _ rfl (h4.put o.dst (zJ hd) ?_) ((Below.refl _ _).alloc (le_refl _) _) (fun k hk => by simp [hk]) (by simp)
  obtain ⟨k, rfl | ⟨sz, n, rfl⟩⟩ := hv
  · cases h3
    have := VRep.ref (w := w.alloc (.cells cs row.ty)) (q := qt c ((r, row) :: s.H) (fun k => if k = r then (w.heap.size, cap) else g k)) (g := fun k => if k = r then (w.heap.size, cap) else g k) r k
    simpa using this
  · cases h3 with
    | own _ _ _ hn vK =>
      have := VRep.own (w := w.alloc (.cells cs row.ty)) (q := qt c ((r, row) :: s.H) (fun k => if k = r then (w.heap.size, cap) else g k)) (g := fun k => if k = r then (w.heap.size, cap) else g k) r sz n (by simpa using hn) (by simpa using vK)
      simpa using this
theorem qO4 {r cap : Nat} {v : V} (hr : s.clean r = true) (hnn : row.nil = false) (vi : V.hasL r row.cells = false) (hd : dok s o = true)
    (h : ∀ g a w, Sim c g s a w → ∃ (cs : Array Value) (x : Value), (row.sz ≠ 0 → cs.size = cap * row.sz) ∧ (execOp a.eval o).run c.P w = .ok (.value x) (w.alloc (.cells cs row.ty)) ∧ (∀ (j : Nat) (u : V), row.cells[j]? = some u → ∃ y, cs[j]? = some y ∧ VRep w (qt c s.H g) g u y) ∧
      VRep (w.alloc (.cells cs row.ty)) (fun _ => True) (fun _ => (w.heap.size, cap)) v x) (hv : ∃ k, v = .ref r k ∨ ∃ sz n, v = .own r sz n false) : StepM c o s (fun s' => s' = s.newObj r row o.dst v) := (qA9 hr hnn vi hd h hv).stepM
theorem uV (r : Nat) {e : TypeId} {v : V} (ho : o.op = .box e x) (hx : s.ev x = some v) (x6 : v.ok = true) (hr : s.clean r = true) (hd : dok s o = true) : StepM c o s (fun s' => s' = s.newObj r ⟨e, v.cs, false, 0⟩ o.dst (.ref r 0)) :=
  qO4 (cap := 0) hr rfl (V.has_cs (S.ev_clean hr hx)) hd (fun g a w hs => by
    obtain ⟨cs, h1, h2, h3, h4⟩ := (hs.ev hx).cells x6; refine ⟨cs.toArray, .pointer (some ⟨w.heap.size, 0, none⟩), fun h => absurd rfl h, ?_, fun j u hu => ?_, .ref _ _⟩
    · simp [execOp, ho, Instr.box, newVar, newRow, h1]
    · have hj : j < cs.length := by rw [← h2]; exact (List.getElem?_eq_some_iff.1 hu).1
      exact ⟨cs[j], by simp [hj], h3 j u _ hu (List.getElem?_eq_getElem hj)⟩) ⟨0, .inl rfl⟩
theorem zp (r : Nat) {e : TypeId} (hi : Inf c.P e sz bt z) (ho : o.op = .alloc e) (hr : s.clean r = true) (hd : dok s o = true) {l : List V} (hl : z.cells.toList.map (fun y => V.d (.p y)) = l) : StepM c o s (fun s' => s' = s.newObj r ⟨e, l, false, 0⟩ o.dst (.ref r 0)) :=
  qO4 (cap := 0) hr rfl (by subst hl; simp [V.hasL_false, V.has]) hd (fun g a w hs => by
    subst hl; refine ⟨z.cells, .pointer (some ⟨w.heap.size, 0, none⟩), fun h => absurd rfl h, ?_, fun j u hu => ?_, .ref _ _⟩
    · simp [execOp, ho, Instr.alloc, u0 hi, newVar, newRow]
    · simp only [List.getElem?_map] at hu
      cases hz : z.cells.toList[j]? with
      | none => rw [hz] at hu; cases hu
      | some y =>
        rw [hz] at hu; simp only [map_some, Option.some.injEq] at hu; subst hu
        exact ⟨y, by simpa using hz, .d _ _ (.p _)⟩) ⟨0, .inl rfl⟩
theorem qr7 (r : Nat) {t e : TypeId} {n : Nat} (hu : c.P.underlying t = some (.slice e)) (hi : Inf c.P e 1 bt z) (hz : z.oneCell' = true) (ho : o.op = .makeSlice t x x) (hx : s.ev x = some (.i n')) (hn : n' = (n : Int)) (hb : n ≤ 1000000) (hbt : bt ≤ 64) (hr : s.clean r = true) (hd : dok s o = true) :
    StepM c o s (fun s' => s' = s.newObj r ⟨e, List.replicate n (.d (.p z)), false, 1⟩ o.dst (.own r 1 n false)) :=
  qO4 (cap := n) hr rfl (by simp [V.hasL_false, V.has]) hd (fun g a w hs => by
    subst hn; obtain ⟨i, hi1, hi2, hi3, hi4⟩ := hi.out
    have ja8 : (i.bytes : Int) * (n : Int) ≤ 281474976710656 := by
      rw [hi3]; have : (bt : Int) * (n : Int) ≤ 64 * (n : Int) := Int.mul_le_mul_of_nonneg_right (by omega) (by omega); omega
    have zv := run_make (P := c.P) w t e i z hu hi1 hi4 .i64 .i64 n n (by omega) (by omega) ja8 (by omega); have hc : z.cells = #[z] := qG9 hz
    have hm : madeCells #[z] (n * 1) = (List.replicate n z).toArray := by
      apply Array.ext
      · simp [madeCells]
      · intro j h1 h2; simp [madeCells, Nat.mod_one]
    simp only [Int.toNat_natCast, hi2, hc, hm] at zv; refine ⟨(List.replicate n z).toArray, .slice (some ⟨w.heap.size, 0, none⟩) n n, by simp, ?_, fun j u hu => ?_, ?_⟩
    · simp [execOp, ho, VRep.p_eq (hs.ev hx), zv]
    · have hj : j < n := by simpa using (List.getElem?_eq_some_iff.1 hu).1
      simp only [List.getElem?_replicate, hj, if_true, Option.some.injEq] at hu; subst hu; exact ⟨z, by simp [hj], .d _ _ (.p _)⟩
    · exact VRep.own (g := fun _ => (w.heap.size, n)) _ _ _ (le_refl _) (by simp only [maxLen]; omega)) ⟨0, .inr ⟨_, _, rfl⟩⟩
def gp (P : Program) (t : TypeId) (pl : List (Nat × Nat)) : Prop := ∃ fields, P.underlying t = some (.struct fields) ∧ fields.toList.mapM (fun f => (P.info? f.type).map fun i => (f.offset, i.size)) = some pl
def xg (cs : List V) (k : Nat) (l : List V) : List V := cs.take k ++ l ++ cs.drop (k + l.length)
def q78 (place : Nat → Option (Nat × Nat)) : List V → List (Nat × V) → Option (List V)
  | cs, [] => some cs
  | cs, (i, v) :: r =>
    match place i with
    | none => none
    | some (off, size) => if v.cs.length = size ∧ off + size ≤ cs.length ∧ v.ok = true then q78 place (xg cs off v.cs) r else none
theorem qr8 {cs l : List V} {k : Nat} (h : k + l.length ≤ cs.length) (j : Nat) : (xg cs k l)[j]? = if k ≤ j ∧ j < k + l.length then l[j - k]? else cs[j]? := by
  unfold xg
  by_cases h1 : j < k
  · grind
  · grind
theorem jo4 {cs l : List V} {k : Nat} (h : k + l.length ≤ cs.length) : (xg cs k l).length = cs.length := by simp [xg]; omega
theorem jo5 : ∀ (l : List Value) (cs : Array Value) (k n : Nat), (l.zipIdx n).foldl (fun cs (x : Value × Nat) => cs.setIfInBounds (k + x.2) x.1) cs = (l.zipIdx 0).foldl (fun cs (x : Value × Nat) => cs.setIfInBounds (k + n + x.2) x.1) cs := by
  intro l
  induction l with
  | nil => intros; rfl
  | cons y l ih =>
    intro cs k n; simp only [zipIdx_cons, List.foldl_cons, Nat.add_zero]; rw [ih _ k (n + 1), ih _ (k + n) (0 + 1)]; simp [Nat.add_assoc, Nat.add_comm, Nat.add_left_comm]
theorem jo6 : ∀ (l : List Value) (cs : Array Value) (k j : Nat), k + l.length ≤ cs.size →
    ((l.zipIdx 0).foldl (fun cs (x : Value × Nat) => cs.setIfInBounds (k + x.2) x.1) cs)[j]? = (if k ≤ j ∧ j < k + l.length then l[j - k]? else cs[j]?) ∧
    ((l.zipIdx 0).foldl (fun cs (x : Value × Nat) => cs.setIfInBounds (k + x.2) x.1) cs).size = cs.size := by
  intro l
  induction l with
  | nil => intro cs k j h; simp; intros; omega
  | cons y l ih =>
    intro cs k j h; simp only [length_cons] at h; simp only [zipIdx_cons, List.foldl_cons, Nat.add_zero]; rw [jo5]; have hh := ih (cs.setIfInBounds k y) (k + 1) j (by simp; omega); simp only [zero_add] at hh ⊢; refine ⟨?_, by simpa using hh.2⟩; rw [hh.1]
    by_cases h1 : k + 1 ≤ j ∧ j < k + 1 + l.length
    · grind
    · grind
theorem qr9 {place : Nat → Option (Nat × Nat)} : ∀ (vs : List (Nat × V)) (xs : List (Nat × Value)) (cs : List V) (arr : Array Value) (out : List V),
    q78 place cs vs = some out → vs.length = xs.length → (∀ (j : Nat) (u : Nat × V) (y : Nat × Value), vs[j]? = some u → xs[j]? = some y → u.1 = y.1 ∧ VRep w q g u.2 y.2) →
    cs.length = arr.size → (∀ (j : Nat) (u : V) (y : Value), cs[j]? = some u → arr[j]? = some y → VRep w q g u y) →
    ∃ arr', Instr.fill place arr xs = some arr' ∧ out.length = arr'.size ∧ ∀ (j : Nat) (u : V) (y : Value), out[j]? = some u → arr'[j]? = some y → VRep w q g u y := by
  intro vs
  induction vs with
  | nil =>
    intro xs cs arr out hf hl hr hs ha; obtain rfl : xs = [] := by cases xs with | nil => rfl | cons => simp at hl
    simp only [q78, Option.some.injEq] at hf; subst hf; exact ⟨arr, rfl, hs, ha⟩
  | cons v vs ih =>
    intro xs cs arr out hf hl hr hs ha; obtain ⟨i, v⟩ := v
    cases xs with
    | nil => simp at hl
    | cons x xs =>
      obtain ⟨i', x⟩ := x; obtain ⟨he, hv⟩ := hr 0 (i, v) (i', x) rfl rfl; simp only at he hv; subst he; simp only [q78] at hf
      cases hp : place i with
      | none => rw [hp] at hf; cases hf
      | some os =>
        obtain ⟨off, size⟩ := os; rw [hp] at hf; simp only at hf
        split at hf
        · rename_i hh
          obtain ⟨h1, h2, h3⟩ := hh; obtain ⟨cells, c1, c2, c3, c4⟩ := hv.cells h3; have xz : x.cells.size = size := by rw [c1]; simp; omega
          have jB3 := fun j => jo6 cells arr off j (by omega)
          obtain ⟨arr', g1, g2, g3⟩ := ih xs (xg cs off v.cs) ((cells.zipIdx 0).foldl (fun cs (x : Value × Nat) => cs.setIfInBounds (off + x.2) x.1) arr) out hf (by simpa using hl)
            (fun j u y hu hy => hr (j + 1) u y hu hy) (by rw [jo4 (by omega), (jB3 0).2]; exact hs) (by
              intro j u y hu hy; rw [qr8 (by omega)] at hu; rw [(jB3 j).1] at hy
              by_cases hj : off ≤ j ∧ j < off + v.cs.length
              · grind
              · rw [if_neg hj] at hu
                rw [if_neg (by omega)] at hy
                exact ha j u y hu hy)
          refine ⟨arr', ?_, g2, g3⟩; simp only [Instr.fill, hp]; rw [if_neg (by simp; omega)]; rw [← g1]
          congr 1
          rw [c1]; simp [← Array.foldl_toList]
        · cases hf
theorem qk1 {ps : List (Nat × Operand)} {vs : List (Nat × V)} (hs : Sim c g s a w) (h : ps.map (fun x => (x.1, s.ev x.2)) = vs.map (fun x => (x.1, some x.2))) :
    vs.length = (ps.map fun x => (x.1, a.eval x.2)).length ∧ ∀ (j : Nat) (u : Nat × V) (y : Nat × Value), vs[j]? = some u → (ps.map fun x => (x.1, a.eval x.2))[j]? = some y → u.1 = y.1 ∧ VRep w (qt c s.H g) g u.2 y.2 := by
  refine ⟨by simpa using (congrArg List.length h).symm, fun j u y hu hy => ?_⟩; have h1 := congrArg (fun l => l[j]?) h; simp only [List.getElem?_map, hu, map_some] at h1 hy
  cases h2 : ps[j]? with
  | none => rw [h2] at h1; cases h1
  | some p =>
    rw [h2] at h1 hy; simp only [map_some, Option.some.injEq, Prod.mk.injEq] at h1 hy; subst hy; exact ⟨h1.1.symm, hs.ev h1.2⟩
theorem qO5 (z : Value) : ∀ (j : Nat) (u : V) (y : Value), (z.cells.toList.map (fun y => V.d (.p y)))[j]? = some u → z.cells[j]? = some y → VRep w q g u y := by
  intro j u y hu hy; rw [List.getElem?_map] at hu; have : z.cells.toList[j]? = some y := by simpa using hy
  rw [this] at hu; simp only [map_some, Option.some.injEq] at hu; subst hu; exact .d _ _ (.p _)
theorem xI {t : TypeId} {pl : List (Nat × Nat)} {vs : List (Nat × V)} {zs l : List V} (hp : gp c.P t pl) (hi : Inf c.P t sz bt z) (ho : o.op = .build t ps)
    (hv : ps.toList.map (fun x => (x.1, s.ev x.2)) = vs.map (fun x => (x.1, some x.2))) (hzs : z.cells.toList.map (fun y => V.d (.p y)) = zs) (hf : q78 (fun i => pl[i]?) zs vs = some l) : RP c o s (.agg l) := fun g a w hs => by
  subst hzs; obtain ⟨h1, h2⟩ := qk1 hs hv
  obtain ⟨arr, h3, h4, h5⟩ := qr9 (w := w) (q := qt c s.H g) (g := g) (place := fun i => pl[i]?) vs (ps.toList.map fun x => (x.1, a.eval x.2)) _ z.cells l hf h1 h2 (by simp) (qO5 z)
  refine ⟨.agg arr, ?_, fun w' => ?_⟩
  · have := VRep.agg (w := w) (q := qt c s.H g) (g := g) l arr.toList (by simpa using h4) (fun j u y hu hy => h5 j u y hu (by simpa using hy))
    simpa using this
  · obtain ⟨fields, hu, hm⟩ := hp
    obtain ⟨i, hi1, hi2, hi3, hi4⟩ := hi.out
    have hb : c.P.built t (ps.map fun (i, x) => (i, a.eval x)).toList = some arr := by
      simp only [Program.built, hi1, hu, hi4, hm]; rw [← h3]; simp
    simp only [execOp, ho, Sem.run_bind, run_build w' t _ arr hb, Result.andThen_ok]; rfl
theorem q79 (r : Nat) {t e : TypeId} {n : Nat} {vs : List (Nat × V)} {zs l : List V} (hu : c.P.underlying t = some (.slice e)) (hi : Inf c.P e sz bt z) (ho : o.op = .buildSlice t n ps)
    (hzs : z.cells.size = sz) (hn : 0 < n * sz) (hn2 : n * sz ≤ 1000000) (hn3 : n ≤ 1000000)
    (hv : ps.toList.map (fun x => (x.1, s.ev x.2)) = vs.map (fun x => (x.1, some x.2))) (hzl : (List.range (n * sz)).map (fun j => V.d (.p z.cells[j % z.cells.size]!)) = zs) (hf : q78 (fun i => some (i * sz, sz)) zs vs = some l) (hl : l.length = n * sz)
    (hr : s.clean r = true) (hrl : V.hasL r l = false) (hd : dok s o = true) : StepG c o s r (fun s' => s' = s.newObj r ⟨e, l, false, sz⟩ o.dst (.own r sz n false)) :=
  qA9 (cap := n) hr rfl hrl hd (fun g a w hs => by
    subst hzl; obtain ⟨h1, h2⟩ := qk1 hs hv
    obtain ⟨arr, h3, h4, h5⟩ := qr9 (w := w) (q := qt c s.H g) (g := g) (place := fun i => some (i * sz, sz)) vs (ps.toList.map fun x => (x.1, a.eval x.2)) _ ((Array.range (n * sz)).map (z.cells[· % z.cells.size]!)) l hf h1 h2 (by simp) (by
      intro j u y hu hy; rw [List.getElem?_map] at hu; simp only [Array.getElem?_map] at hy
      by_cases hj : j < n * sz
      · rw [List.getElem?_range hj] at hu
        simp [hj] at hy hu; subst hu hy; exact .d _ _ (.p _)
      · rw [List.getElem?_eq_none (by simpa using hj)] at hu
        cases hu)
    refine ⟨arr, .slice (some ⟨w.heap.size, 0, none⟩) n n, fun _ => by simp only; omega, ?_, fun j u hu => ?_, ?_⟩
    · have : ¬ (n * sz > 2 ^ 24) := by omega
      have h0 : ¬ (n * sz = 0) := by omega
      simp [execOp, ho, Instr.buildSlice, run_underlying hu, vP hi, h0, u0 hi, newRow]; rw [if_neg (by omega)]; simp [h3]
    · have hj : j < arr.size := by rw [← h4]; exact (List.getElem?_eq_some_iff.1 hu).1
      exact ⟨arr[j], Array.getElem?_eq_getElem hj, h5 j u _ hu (Array.getElem?_eq_getElem hj)⟩
    · exact VRep.own (g := fun _ => (w.heap.size, n)) _ _ _ (le_refl _) (by simp only [maxLen]; omega)) ⟨0, .inr ⟨_, _, rfl⟩⟩
theorem zN (r : Nat) {t e : TypeId} {n : Nat} {vs : List (Nat × V)} {zs l : List V} (hu : c.P.underlying t = some (.slice e)) (hi : Inf c.P e sz bt z) (ho : o.op = .buildSlice t n ps)
    (hzs : z.cells.size = sz) (hn : 0 < n * sz) (hn2 : n * sz ≤ 1000000) (hn3 : n ≤ 1000000)
    (hv : ps.toList.map (fun x => (x.1, s.ev x.2)) = vs.map (fun x => (x.1, some x.2))) (hzl : (List.range (n * sz)).map (fun j => V.d (.p z.cells[j % z.cells.size]!)) = zs) (hf : q78 (fun i => some (i * sz, sz)) zs vs = some l) (hl : l.length = n * sz)
    (hr : s.clean r = true) (hrl : V.hasL r l = false) (hd : dok s o = true) : StepM c o s (fun s' => s' = s.newObj r ⟨e, l, false, sz⟩ o.dst (.own r sz n false)) := (q79 r hu hi ho hzs hn hn2 hn3 hv hzl hf hl hr hrl hd).stepM
end
section
variable {c : Cx} {s : S} {o : Oper} {g : Nat → Nat × Nat} {a : Act} {w : World} {q : Nat → Prop}
theorem Sim.setRow (h : Sim c g s a w) {w' : World} {r : Nat} {arr' : Array Value} (hr : fnd s.H r = some row) (hn : row.nil = false) (hty : row'.ty = row.ty) (hn' : row'.nil = false) (hsr : row'.sz = row.sz)
    (hb : w'.heap[(g r).1]? = some (.cells arr' row.ty (0, 0))) (hob : ∀ b, b ≠ (g r).1 → w'.heap[b]? = w.heap[b]?) (qe4 : w'.heap.size = w.heap.size) (hos : w'.os = w.os) (htp : w'.tape = w.tape) (hou : w'.output = w.output)
    (xz : ∀ arr ty, w.heap[(g r).1]? = some (.cells arr ty (0, 0)) → arr'.size = arr.size)
    (hc : ∀ (j : Nat) (v : V), row'.cells[j]? = some v → ∃ x, arr'[j]? = some x ∧ VRep w (qt c s.H g) g v x) : Sim c g { s with H := (r, row') :: s.H } a w' := by
  have hq : ∀ b, qt c s.H g b → b < w.heap.size → qt c ((r, row') :: s.H) g b := by
    intro b hqb _; refine ⟨hqb.1, fun k row'' hk xU => ?_⟩
    by_cases e : k = r
    · subst e; exact hqb.2 k row hr hn
    · simp only [fnd, beq_iff_eq, Ne.symm e, if_false] at hk
      exact hqb.2 k row'' hk xU
  have hw : Cells w w' (qt c s.H g) := ⟨by omega, fun b o u hqb zk ux => (World.cell?_of_block (w := w) (a := ⟨b, o, none⟩) (hob b (fun e => hqb.2 r row hr hn e.symm))).trans ux, fun b es zT hm => (hob b fun e => by
      obtain ⟨arr, h1, _⟩ := h.obj r row hr hn
      rw [e, h1] at hm; cases hm; exact zT _ _ _ rfl).trans hm⟩
  have hm : ∀ {v x}, VRep w (qt c s.H g) g v x → VRep w' (qt c ((r, row') :: s.H) g) g v x := fun hv => hv.mono hw hq (fun r _ => rfl)
  have qk2 : ∀ k row'', fnd ((r, row') :: s.H) k = some row'' → k = r ∧ row'' = row' ∨ k ≠ r ∧ fnd s.H k = some row'' := by grind [fnd]
  have qe5 : Below c.w0.heap.size c.w0 w' := by
    refine h.below.trans ⟨hos, htp, hou, by omega, fun k hk => hob k ?_⟩; have := h.base r row hr hn; omega
  refine ⟨h.size, h.defers, ?_, ?_, ?_, ?_, ?_, ?_, h.low, qe5⟩
  · intro i v hv
    obtain ⟨x, h1, h2⟩ := h.tmp i v hv; exact ⟨x, h1, hm h2⟩
  · intro k row'' hk xU
    rcases qk2 k row'' hk with ⟨_, rfl⟩ | ⟨_, h1⟩
    · rw [hn'] at xU; cases xU
    · exact h.nul k row'' h1 xU
  · intro k row'' hk xU
    rcases qk2 k row'' hk with ⟨rfl, rfl⟩ | ⟨e, h1⟩
    · obtain ⟨arr0, h7, h8, _⟩ := h.obj _ row hr hn
      refine ⟨arr', by rw [hty]; exact hb, by rw [hsr, xz _ _ h7]; exact h8, fun j v hv => ?_⟩; obtain ⟨x, h2, h3⟩ := hc j v hv; exact ⟨x, h2, hm h3⟩
    · obtain ⟨arr, h2, hzz, h3⟩ := h.obj k row'' h1 xU
      refine ⟨arr, (hob _ fun e' => e (h.inj k r _ _ h1 xU hr hn e')).trans h2, hzz, fun j v hv => ?_⟩; obtain ⟨x, h4, h5⟩ := h3 j v hv; exact ⟨x, h4, hm h5⟩
  · intro j v x h1 h2
    exact hm (h.keep j v x h1 h2)
  · intro k k' row1 row2 h1 n1 h2 n2 h3
    rcases qk2 k row1 h1 with ⟨rfl, rfl⟩ | ⟨e, h1'⟩ <;> rcases qk2 k' row2 h2 with ⟨rfl, rfl⟩ | ⟨e', h2'⟩
    · rfl
    · exact h.inj _ _ _ _ hr hn h2' n2 h3
    · exact h.inj _ _ _ _ h1' n1 hr hn h3
    · exact h.inj _ _ _ _ h1' n1 h2' n2 h3
  · intro k row'' hk xU
    rcases qk2 k row'' hk with ⟨rfl, rfl⟩ | ⟨e, h1⟩
    · exact h.base _ row hr hn
    · exact h.base k _ h1 xU
theorem gY {t : TypeId} {r k : Nat} {v : V} {l : List V} (hi : Inf c.P t sz bt z) (ho : o.op = .store t x y) (hd : o.dst = none) (hx : s.ev x = some (.ref r k)) (hy : s.ev y = some v) (hr : fnd s.H r = some row) (hn : row.nil = false)
    (x6 : v.ok = true) (hl : v.cs.length = sz) (q29 : k + sz ≤ row.cells.length) (wJ : xg row.cells k v.cs = l) : vm c o s (fun s' => s' = { s with H := (r, { row with cells := l }) :: s.H }) := by
  intro g a w hs K Q hK; obtain ⟨cs, c1, c2, c3, c4⟩ := (hs.ev hy).cells x6; obtain ⟨arr, h1, _, h2⟩ := hs.obj r row hr hn
  have zI : row.cells.length ≤ arr.size := by
    rcases Nat.eq_zero_or_pos row.cells.length with h0 | h0
    · omega
    · obtain ⟨y, hy', _⟩ := h2 (row.cells.length - 1) row.cells[row.cells.length - 1] (List.getElem?_eq_getElem (by omega))
      have := (Array.getElem?_eq_some_iff.1 hy').1; omega
  have zv := run_storeCells_at c.P (g r).1 k row.ty cs 0 arr w h1 (by omega) c4
  have hx' : a.eval x = .pointer (some ⟨(g r).1, k, none⟩) := by
    have h := hs.ev hx; generalize a.eval x = u at h
    cases h; rfl
  have xz : (a.eval y).cells.size = sz := by rw [c1]; simp; omega
  unfold Oper.wp
  have xP : (execOp a.eval o).run c.P w = .ok .skip (w.setRow (g r).1 (arr.toList.take (k + 0) ++ cs ++ arr.toList.drop (k + 0 + cs.length)).toArray) := by
    simp only [execOp, ho, hx', Instr.storeAt, Instr.sureAddr, storeVar, Sem.run_bind, Sem.run_pure, Result.andThen_ok, vP hi, xz]; simp [c1, zv]
  rw [xP]; simp only [Oper.upon, hd, Act.put]; simp only [Nat.add_zero]; refine hK g _ a _ rfl (Sim.setRow hs (row' := { row with cells := l }) hr hn rfl hn rfl (setRow_heap _ _ _ _ _ _ h1) (fun b hb => setRow_other _ _ _ _ hb) (by simp) rfl rfl rfl ?_ ?_)
  · grind
  · intro j u hu
    subst wJ; simp only at hu; rw [qr8 (by omega)] at hu
    have wP : ((arr.toList.take k ++ cs ++ arr.toList.drop (k + cs.length)).toArray)[j]? = if k ≤ j ∧ j < k + cs.length then cs[j - k]? else arr[j]? := by grind [append_assoc, List.getElem?_append_left, List.getElem?_take_of_lt, List.getElem?_append_right]
    rw [wP]
    by_cases hj : k ≤ j ∧ j < k + v.cs.length
    · grind
    · grind
theorem vA {t : TypeId} {r k : Nat} {v : V} {l : List V} (hi : Inf c.P t 1 bt z) (ho : o.op = .store t x y) (hd : o.dst = none) (hx : s.ev x = some (.ref r k)) (hy : s.ev y = some v) (hr : fnd s.H r = some row) (hn : row.nil = false)
    (x6 : v.one = true) (q29 : k < row.cells.length) (wJ : row.cells.set k v = l) : vm c o s (fun s' => s' = { s with H := (r, { row with cells := l }) :: s.H }) := by
  have hcs : v.cs = [v] := by cases v <;> first | rfl | (simp [V.one] at x6)
  refine gY hi ho hd hx hy hr hn ?_ (by rw [hcs]; rfl) (by omega) ?_
  · cases v <;> first | exact x6 | (simp [V.one] at x6)
  · rw [← wJ, hcs]
    apply ext_getElem?; intro j; rw [qr8 (by simp; omega), List.getElem?_set]
    by_cases e : k = j
    · subst e; simp [q29]
    · rw [if_neg (by simp; omega), if_neg e]
def zV (r : Nat) (v : V) : V := if v.has r then .junk else v
def S.forget (s : S) (r : Nat) : S := ⟨s.n, s.T.map (fun x => (x.1, zV r x.2)), (s.H.filter (fun x => x.1 != r)).map (fun x => (x.1, { x.2 with cells := if V.hasL r x.2.cells then x.2.cells.map (zV r) else x.2.cells })), s.K.map (zV r)⟩
theorem uo {α β : Type} (f : α → β) : ∀ (l : List (Nat × α)) (i : Nat), fnd (l.map (fun x => (x.1, f x.2))) i = (fnd l i).map f
  | [], i => rfl
  | (k, v) :: r, i => by
    simp only [map_cons, fnd]
    split
    · rfl
    · exact uo f r i
theorem yA {α : Type} (r : Nat) : ∀ (l : List (Nat × α)) (i : Nat), i ≠ r → fnd (l.filter (fun x => x.1 != r)) i = fnd l i
  | [], i, _ => rfl
  | (k, v) :: l, i, h => by
    by_cases e : k = r
    · subst e
      have h0 : ((k, v).1 != k) = false := by simp
      rw [filter_cons, if_neg (by simp), yA k l i h]; simp [fnd, Ne.symm h]
    · rw [filter_cons, if_pos (by simpa using e)]
      simp only [fnd, yA r l i h]
theorem yj {α : Type} (r : Nat) : ∀ (l : List (Nat × α)), fnd (l.filter (fun x => x.1 != r)) r = none
  | [] => rfl
  | (k, v) :: l => by
    by_cases e : k = r
    · subst e
      rw [filter_cons, if_neg (by simp)]; exact yj k l
    · rw [filter_cons, if_pos (by simpa using e)]
      simp only [fnd, beq_iff_eq, e, if_false]; exact yj r l
theorem q56 {r : Nat} (v : V) : (zV r v).has r = false := by
  unfold zV
  split
  · rfl
  · rename_i h; simpa using h
theorem qk3 {r : Nat} (v : V) : Wk (zV r v) v := by
  unfold zV
  split
  · exact .junk _
  · exact .refl _
theorem Sim.grown (h : Sim c g s a w) {w' : World} {r : Nat} {cap : Nat} {arr' : Array Value} (hr : fnd s.H r = some row) (hG : row.nil = false ∧ G = (g r).1 ∨ G = w.heap.size) (hn' : row'.nil = false)
    (hb : w'.heap[G]? = some (.cells arr' row'.ty (0, 0))) (hob : ∀ b, b < w.heap.size → (row.nil = false → b ≠ (g r).1) → w'.heap[b]? = w.heap[b]?) (qe4 : w.heap.size ≤ w'.heap.size) (hos : w'.os = w.os) (htp : w'.tape = w.tape) (hou : w'.output = w.output)
    (k97 : V.hasL r row'.cells = false) (vK : row'.sz ≠ 0 → arr'.size = cap * row'.sz) (hc : ∀ (j : Nat) (v : V), row'.cells[j]? = some v → ∃ x, arr'[j]? = some x ∧ VRep w (qt c s.H g) g v x) :
    Sim c (fun k => if k = r then (G, cap) else g k) ⟨s.n, (s.forget r).T, (r, row') :: (s.forget r).H, (s.forget r).K⟩ a w' := by
  have zk : ∀ {b o}, w.heap[b]? = some o → b < w.heap.size := fun h => (Array.getElem?_eq_some_iff.1 h).1
  have hGb : c.w0.heap.size ≤ G := by
    rcases hG with ⟨h1, rfl⟩ | rfl
    · exact h.base r row hr h1
    · exact h.below.size
  have hfH : ∀ k row'', fnd ((r, row') :: (s.forget r).H) k = some row'' → k = r ∧ row'' = row' ∨ k ≠ r ∧ ∃ row0, fnd s.H k = some row0 ∧ row''.ty = row0.ty ∧ row''.nil = row0.nil ∧ row''.sz = row0.sz ∧ ∀ (j : Nat) (v : V), row''.cells[j]? = some v → v.has r = false ∧ ∃ u, row0.cells[j]? = some u ∧ Wk v u := by
    intro k row'' hk
    by_cases e : k = r
    · subst e; simp [fnd] at hk; exact .inl ⟨rfl, hk.symm⟩
    · simp only [fnd, beq_iff_eq, Ne.symm e, if_false] at hk
      refine .inr ⟨e, ?_⟩; simp only [S.forget] at hk
      rw [uo (fun (x : Row) => ({ x with cells := if V.hasL r x.cells then x.cells.map (zV r) else x.cells } : Row)), yA r _ _ e] at hk
      cases h0 : fnd s.H k with
      | none => rw [h0] at hk; cases hk
      | some row0 =>
        rw [h0] at hk; simp only [map_some, Option.some.injEq] at hk; subst hk; refine ⟨row0, rfl, rfl, rfl, rfl, fun j v hv => ?_⟩; simp only at hv
        split at hv
        · grind [Option.some.injEq, q56, qk3]
        · rename_i hh
          exact ⟨V.hasL_false.1 (by simpa using hh) v (mem_of_getElem? hv), v, hv, .refl _⟩
  have hfT : ∀ i v, fnd (s.forget r).T i = some v → ∃ u, fnd s.T i = some u ∧ v = zV r u := by
    intro i v hv; simp only [S.forget] at hv; rw [uo] at hv
    cases h0 : fnd s.T i with
    | none => rw [h0] at hv; cases hv
    | some u => rw [h0] at hv; simp only [map_some, Option.some.injEq] at hv; exact ⟨u, rfl, hv.symm⟩
  have hq : ∀ b, qt c s.H g b → b < w.heap.size → qt c ((r, row') :: (s.forget r).H) (fun k => if k = r then (G, cap) else g k) b := by
    intro b hqb hbl; refine ⟨hqb.1, fun k row'' hk xU => ?_⟩
    rcases hfH k row'' hk with ⟨rfl, rfl⟩ | ⟨e, row0, h1, _, h3, _, _⟩
    · simp only [if_true]
      rcases hG with ⟨h1, rfl⟩ | rfl
      · exact hqb.2 k row hr h1
      · omega
    · simp only [e, if_false]
      exact hqb.2 k row0 h1 (h3 ▸ xU)
  have hw : Cells w w' (qt c s.H g) := ⟨qe4, fun b o u hqb hbl ux => (World.cell?_of_block (w := w) (a := ⟨b, o, none⟩) (hob b hbl (fun hn e => hqb.2 r row hr hn e.symm))).trans ux, fun b es zT hm => (hob b (Array.getElem?_eq_some_iff.1 hm).1 fun hn e => by
      obtain ⟨arr, h1, _⟩ := h.obj r row hr hn
      rw [e, h1] at hm; cases hm; exact zT _ _ _ rfl).trans hm⟩
  have hm : ∀ {v x}, v.has r = false → VRep w (qt c s.H g) g v x → VRep w' (qt c ((r, row') :: (s.forget r).H) (fun k => if k = r then (G, cap) else g k)) (fun k => if k = r then (G, cap) else g k) v x := by
    intro v x hv hx; refine hx.mono hw hq fun k hk => ?_; have e : k ≠ r := by rintro rfl; rw [hv] at hk; cases hk
    simp [e]
  have qe5 : Below c.w0.heap.size c.w0 w' := by
    refine h.below.trans ⟨hos, htp, hou, by have := h.below.size; omega, fun k hk => hob k (by have := h.below.size; omega) fun hn => ?_⟩; have := h.base r row hr hn; omega
  refine ⟨h.size, h.defers, ?_, ?_, ?_, ?_, ?_, ?_, h.low, qe5⟩
  · intro i v hv
    obtain ⟨u, h1, rfl⟩ := hfT i v hv; obtain ⟨x, h2, h3⟩ := h.tmp i u h1; exact ⟨x, h2, hm (q56 u) ((qk3 u).rep h3)⟩
  · intro k row'' hk xU
    rcases hfH k row'' hk with ⟨_, rfl⟩ | ⟨_, row0, h1, _, h3, _, h4⟩
    · rw [hn'] at xU; cases xU
    · have h0 := h.nul k row0 h1 (h3 ▸ xU)
      cases hcc : row''.cells with
      | nil => rfl
      | cons v l =>
        obtain ⟨_, u, h5, _⟩ := h4 0 v (by simp [hcc]); simp [h0] at h5
  · intro k row'' hk xU
    rcases hfH k row'' hk with ⟨rfl, rfl⟩ | ⟨e, row0, h1, h2, h3, hz0, h4⟩
    · grind [V.hasL_false, mem_of_getElem?]
    · obtain ⟨arr, h5, h55, h6⟩ := h.obj k row0 h1 (h3 ▸ xU)
      refine ⟨arr, ?_, by rw [hz0]; simpa only [e, if_false] using h55, fun j v hv => ?_⟩
      · simp only [e, if_false]
        rw [h2]
        exact (hob _ (zk h5) (fun hn e' => e (h.inj k r _ _ h1 (h3 ▸ xU) hr hn e'))).trans h5
      · obtain ⟨xM, u, h7, h8⟩ := h4 j v hv
        obtain ⟨x, h9, h10⟩ := h6 j u h7; exact ⟨x, h9, hm xM (h8.rep h10)⟩
  · intro j v x h1 h2
    simp only [S.forget, List.getElem?_map] at h1
    cases h0 : s.K[j]? with
    | none => rw [h0] at h1; cases h1
    | some u =>
      rw [h0] at h1; simp only [map_some, Option.some.injEq] at h1; subst h1; exact hm (q56 u) ((qk3 u).rep (h.keep j u x h0 h2))
  · intro k k' row1 row2 h1 n1 h2 n2 h3
    rcases hfH k row1 h1 with ⟨rfl, rfl⟩ | ⟨e, row0, h1', _, m1, _, _⟩ <;> rcases hfH k' row2 h2 with ⟨rfl, rfl⟩ | ⟨e', row0', h2', _, m2, _, _⟩
    · rfl
    · simp only [e', if_true, if_false] at h3
      obtain ⟨arr, h5, _⟩ := h.obj k' row0' h2' (m2 ▸ n2); have := zk h5
      rcases hG with ⟨hn, rfl⟩ | rfl
      · exact absurd (h.inj _ _ _ _ hr hn h2' (m2 ▸ n2) h3).symm e'
      · omega
    · simp only [e, if_true, if_false] at h3
      obtain ⟨arr, h5, _⟩ := h.obj k row0 h1' (m1 ▸ n1); have := zk h5
      rcases hG with ⟨hn, rfl⟩ | rfl
      · exact absurd (h.inj _ _ _ _ hr hn h1' (m1 ▸ n1) h3.symm).symm e
      · omega
    · simp only [e, e', if_false] at h3
      exact h.inj _ _ _ _ h1' (m1 ▸ n1) h2' (m2 ▸ n2) h3
  · intro k row'' hk xU
    rcases hfH k row'' hk with ⟨rfl, rfl⟩ | ⟨e, row0, h1, _, m1, _, _⟩
    · simpa using hGb
    · simp only [e, if_false]
      exact h.base k _ h1 (m1 ▸ xU)
def StepX (c : Cx) (o : Oper) (s : S) (r : Nat) (N : S → Prop) : Prop := ∀ g a w, Sim c g s a w → ∀ (K : Act → World → Prop) (Q : Exit → Act → World → Prop),
  (∀ g' s' a' w', N s' → Sim c g' s' a' w' → (w.heap.size ≤ w'.heap.size ∧ ∀ k, k < w.heap.size → (∀ row, fnd s.H r = some row → row.nil = false → k ≠ (g r).1) → w'.heap[k]? = w.heap[k]?) → K a' w') → o.wp c.P a w K Q
theorem StepX.step {r : Nat} {N : S → Prop} (h : StepX c o s r N) : vm c o s N := fun g a w hs K Q hK => h g a w hs K Q fun g' s' a' w' h1 h2 _ => hK g' s' a' w' h1 h2
theorem qb9 {t e : TypeId} {x y : Operand} {r n m : Nat} {f : Bool} {row : Row} {l1 news : List V} (hu : c.P.underlying t = some (.slice e)) (hi : Inf c.P e sz bt z) (hzs : z.cells.size = sz) (xz : 0 < sz)
    (ho : o.op = .call { callee := .builtin .append, args := #[x, y], argTypes := #[t, t] }) (hx : s.ev x = some (.own r sz n f)) (hr : fnd s.H r = some row) (hf : row.nil = f) (hrz : row.sz = sz) (hty : row.ty = e)
    (hl : row.cells.take (n * sz) = l1) (hl1 : l1.length = n * sz) (hc1 : V.hasL r l1 = false) (hnl : news.length = m * sz) (hc2 : V.hasL r news = false) (hm : 0 < m) (h63 : n + m ≤ 140737488355328) (hbt : (n + m) * bt ≤ 140737488355328) (hd : dok s o = true)
    (uP : ∀ g a w, Sim c g s a w → ∃ (ad : Addr) (cp : Nat) (cs : List Value), a.eval y = .slice (some ad) m cp ∧ cs.length = m * sz ∧ (∀ (j : Nat) (u : Value), cs[j]? = some u → w.cell? (ad.add j) = some u) ∧ (∀ u ∈ cs, u.oneCell' = true) ∧
      ∀ (j : Nat) (u : V) (x : Value), news[j]? = some u → cs[j]? = some x → VRep w (qt c s.H g) g u x) :
    StepX c o s r (fun s' => s' = S.put ⟨s.n, (s.forget r).T, (r, ⟨e, l1 ++ news, false, sz⟩) :: (s.forget r).H, (s.forget r).K⟩ o.dst (.own r sz (n + m) false)) := by
  intro g a w hs K Q hK; obtain ⟨ad, cp, cs, n1, n2, n3, n4, n5⟩ := uP g a w hs; obtain ⟨i, hi1, hi2, hi3, hi4⟩ := hi.out
  have bC : ∃ xs : List Value, w.ownsRow 0 e sz (a.eval x) n xs ∧ (∀ (j : Nat) (u : V), l1[j]? = some u → ∃ y, xs[j]? = some y ∧ VRep w (qt c s.H g) g u y) ∧ ∀ b, (a.eval x).ownBlock = some b → row.nil = false ∧ b = (g r).1 := by
    have h := hs.ev hx; generalize a.eval x = u at h
    cases h with
    | own _ _ _ hn vK =>
      obtain ⟨arr, h1, h2, h3⟩ := hs.obj r row hr hf; have ja9 : arr.size = (g r).2 * sz := by rw [h2 (by omega), hrz]
      have hle : n * sz ≤ arr.size := by rw [ja9]; exact Nat.mul_le_mul_right _ hn
      refine ⟨arr.toList.take (n * sz), ⟨by simp; omega, .inr ⟨(g r).1, (g r).2, arr, rfl, Nat.zero_le _, by rw [← hty]; exact h1, hn, vK, ja9, rfl⟩⟩, fun j u hu => ?_, fun b hb => ⟨hf, by simpa [Value.ownBlock] using hb.symm⟩⟩
      have vJ : j < n * sz := by rw [← hl1]; exact (List.getElem?_eq_some_iff.1 hu).1
      rw [← hl, List.getElem?_take_of_lt vJ] at hu; obtain ⟨y, h4, h5⟩ := h3 j u hu; exact ⟨y, by rw [List.getElem?_take_of_lt vJ]; simpa using h4, h5⟩
    | ownNil =>
      refine ⟨[], ⟨by simp, .inl ⟨rfl, rfl⟩⟩, fun j u hu => ?_, fun b hb => by simp [Value.ownBlock] at hb⟩
      have : l1 = [] := by simpa using hl1
      simp [this] at hu
  obtain ⟨xs, o1, o2, o3⟩ := bC; obtain ⟨v', w', zv, r1, r2, r3, r4⟩ := run_append_own_at (P := c.P) w 0 t o.type e i z sz bt hu hi1 hi4 hi2 hi3 hzs xz _ n xs o1 ad m cp cs n2 n3 n4 (by simp only [maxLen]; omega) hbt (Nat.zero_le _); obtain ⟨q1, q2⟩ := r1
  rcases q2 with ⟨_, h0⟩ | ⟨G, cap, cur, rfl, _, q3, q4, q5, q6, q7⟩
  · omega
  · have hG : row.nil = false ∧ G = (g r).1 ∨ G = w.heap.size := by
      rcases r4 with r4 | r4
      · exact .inl (o3 G (by rw [← r4]; rfl))
      · right; simpa [Value.ownBlock] using r4
    have q57 := Sim.grown hs (row' := ⟨e, l1 ++ news, false, sz⟩) (cap := cap) hr hG rfl q3 (fun b hb zT => r2.block b hb (fun e' => (zT (o3 b e'.symm).1) (o3 b e'.symm).2)) r2.size r2.os r2.tape r2.output (by
        rw [V.hasL_false] at hc1 hc2 ⊢; intro v hv
        rcases List.mem_append.1 hv with h | h
        · exact hc1 v h
        · exact hc2 v h) (fun _ => q6) (by
      intro j v hv; simp only at hv; have jo7 : ∀ k, k < (n + m) * sz → cur[k]? = (xs ++ cs)[k]? := by grind
      have hxl : xs.length = n * sz := o1.1; have vJ : j < (n + m) * sz := by grind
      rw [jo7 j vJ]
      by_cases hj : j < n * sz
      · grind
      · rw [List.getElem?_append_right (by omega)] at hv ⊢
        have zk : j - n * sz < cs.length := by rw [Nat.add_mul] at vJ; omega
        rw [hl1] at hv; rw [hxl]
        exact ⟨cs[j - n * sz], List.getElem?_eq_getElem zk, n5 _ v _ hv (List.getElem?_eq_getElem zk)⟩)
    unfold Oper.wp
    have xP : (execOp a.eval o).run c.P w = .ok (.value (.slice (some ⟨G, 0, none⟩) (n + m) cap)) w' := by
      simp only [execOp, ho, resolve, invoke, builtin, Sem.run_bind, Sem.run_pure, Result.andThen_ok, map_toArray, map_cons, map_nil, n1, zv]
    rw [xP]
    refine hK _ _ _ _ rfl (q57.put o.dst ?_ ?_) ⟨r2.size, fun k hk zT => r2.block k hk (fun e' => zT row hr (o3 k e'.symm).1 (o3 k e'.symm).2)⟩
    · exact zJ (s := s) hd
    · have := VRep.own (w := w') (q := qt c ((r, (⟨e, l1 ++ news, false, sz⟩ : Row)) :: (s.forget r).H) (fun k => if k = r then (G, cap) else g k)) (g := fun k => if k = r then (G, cap) else g k) r sz (n + m) (by simpa using q4) (by simpa using q5)
      simpa using this
theorem qM0 {t e : TypeId} {x y : Operand} {r n m : Nat} {f : Bool} {row : Row} {l1 news : List V} (hu : c.P.underlying t = some (.slice e)) (hi : Inf c.P e sz bt z) (hzs : z.cells.size = sz) (xz : 0 < sz)
    (ho : o.op = .call { callee := .builtin .append, args := #[x, y], argTypes := #[t, t] }) (hx : s.ev x = some (.own r sz n f)) (hr : fnd s.H r = some row) (hf : row.nil = f) (hrz : row.sz = sz) (hty : row.ty = e)
    (hl : row.cells.take (n * sz) = l1) (hl1 : l1.length = n * sz) (hc1 : V.hasL r l1 = false) (hnl : news.length = m * sz) (hc2 : V.hasL r news = false) (hm : 0 < m) (h63 : n + m ≤ 140737488355328) (hbt : (n + m) * bt ≤ 140737488355328) (hd : dok s o = true)
    (uP : ∀ g a w, Sim c g s a w → ∃ (ad : Addr) (cp : Nat) (cs : List Value), a.eval y = .slice (some ad) m cp ∧ cs.length = m * sz ∧ (∀ (j : Nat) (u : Value), cs[j]? = some u → w.cell? (ad.add j) = some u) ∧ (∀ u ∈ cs, u.oneCell' = true) ∧
      ∀ (j : Nat) (u : V) (x : Value), news[j]? = some u → cs[j]? = some x → VRep w (qt c s.H g) g u x) :
    vm c o s (fun s' => s' = S.put ⟨s.n, (s.forget r).T, (r, ⟨e, l1 ++ news, false, sz⟩) :: (s.forget r).H, (s.forget r).K⟩ o.dst (.own r sz (n + m) false)) := (qb9 hu hi hzs xz ho hx hr hf hrz hty hl hl1 hc1 hnl hc2 hm h63 hbt hd uP).step
theorem qw3 {t e : TypeId} {x y : Operand} {r r2 n m : Nat} {f : Bool} {row row2 : Row} {l1 news : List V} (hu : c.P.underlying t = some (.slice e)) (hi : Inf c.P e sz bt z) (hzs : z.cells.size = sz) (xz : 0 < sz)
    (ho : o.op = .call { callee := .builtin .append, args := #[x, y], argTypes := #[t, t] }) (hx : s.ev x = some (.own r sz n f)) (hr : fnd s.H r = some row) (hf : row.nil = f) (hrz : row.sz = sz) (hty : row.ty = e)
    (hl : row.cells.take (n * sz) = l1) (hl1 : l1.length = n * sz) (hc1 : V.hasL r l1 = false) (hy : s.ev y = some (.own r2 sz m false)) (hr2 : fnd s.H r2 = some row2) (hf2 : row2.nil = false) (uP : row2.cells.take (m * sz) = news) (hnl : news.length = m * sz) (hc2 : V.hasL r news = false) (uW : news.all V.one = true) (hm : 0 < m) (h63 : n + m ≤ 140737488355328) (hbt : (n + m) * bt ≤ 140737488355328) (hd : dok s o = true) :
    StepX c o s r (fun s' => s' = S.put ⟨s.n, (s.forget r).T, (r, ⟨e, l1 ++ news, false, sz⟩) :: (s.forget r).H, (s.forget r).K⟩ o.dst (.own r sz (n + m) false)) :=
  qb9 hu hi hzs xz ho hx hr hf hrz hty hl hl1 hc1 hnl hc2 hm h63 hbt hd (fun g a w hs => by
    have h := hs.ev hy; obtain ⟨arr, h1, h2, h3⟩ := hs.obj r2 row2 hr2 hf2; generalize a.eval y = u at h
    cases h with
    | own _ _ _ hn vK =>
      have hat : ∀ (j : Nat) (u : V), news[j]? = some u → ∃ x, arr[j]? = some x ∧ VRep w (qt c s.H g) g u x := by grind
      have qe4 : m * sz ≤ arr.size := by
        rw [← hnl]
        rcases Nat.eq_zero_or_pos news.length with h0 | h0
        · omega
        · obtain ⟨y, hy', _⟩ := hat (news.length - 1) news[news.length - 1] (List.getElem?_eq_getElem (by omega))
          have := (Array.getElem?_eq_some_iff.1 hy').1; omega
      have hgt : ∀ (j : Nat) (u : Value), (arr.toList.take (m * sz))[j]? = some u → j < m * sz ∧ arr[j]? = some u := by grind
      refine ⟨⟨(g r2).1, 0, none⟩, (g r2).2, arr.toList.take (m * sz), rfl, by simp; omega, fun j u hu => ?_, fun u hu => ?_, fun j u x hu hx => ?_⟩
      · rw [wN, zero_add]
        exact (cell_of_row w _ _ _ _ _ h1).trans (hgt j u hu).2
      · obtain ⟨j, hj⟩ := List.getElem?_of_mem hu
        obtain ⟨vJ, hj'⟩ := hgt j u hj; obtain ⟨x, h4, h5⟩ := hat j news[j] (List.getElem?_eq_getElem (by omega)); rw [hj'] at h4; simp only [Option.some.injEq] at h4; subst h4; exact h5.one (List.all_eq_true.1 uW _ (List.getElem_mem _))
      · obtain ⟨y, h4, h5⟩ := hat j u hu
        rw [(hgt j x hx).2] at h4; simp only [Option.some.injEq] at h4; subst h4
        exact h5)
theorem jh5 {t e : TypeId} {x y : Operand} {r r2 n m : Nat} {f : Bool} {row row2 : Row} {l1 news : List V} (hu : c.P.underlying t = some (.slice e)) (hi : Inf c.P e sz bt z) (hzs : z.cells.size = sz) (xz : 0 < sz)
    (ho : o.op = .call { callee := .builtin .append, args := #[x, y], argTypes := #[t, t] }) (hx : s.ev x = some (.own r sz n f)) (hr : fnd s.H r = some row) (hf : row.nil = f) (hrz : row.sz = sz) (hty : row.ty = e)
    (hl : row.cells.take (n * sz) = l1) (hl1 : l1.length = n * sz) (hc1 : V.hasL r l1 = false) (hy : s.ev y = some (.own r2 sz m false)) (hr2 : fnd s.H r2 = some row2) (hf2 : row2.nil = false) (uP : row2.cells.take (m * sz) = news) (hnl : news.length = m * sz) (hc2 : V.hasL r news = false) (uW : news.all V.one = true) (hm : 0 < m) (h63 : n + m ≤ 140737488355328) (hbt : (n + m) * bt ≤ 140737488355328) (hd : dok s o = true) :
    vm c o s (fun s' => s' = S.put ⟨s.n, (s.forget r).T, (r, ⟨e, l1 ++ news, false, sz⟩) :: (s.forget r).H, (s.forget r).K⟩ o.dst (.own r sz (n + m) false)) := (qw3 hu hi hzs xz ho hx hr hf hrz hty hl hl1 hc1 hy hr2 hf2 uP hnl hc2 uW hm h63 hbt hd).step
end
abbrev V.k (k : IntKind) (n : Int) : V := .d (.p (.int k n))
section
variable {c : Cx} {s : S} {o : Oper}
theorem qB0 {t t' : TypeId} {k : IntKind} {d : TypeDesc} {r : Int} (hu : c.P.underlying t = some d) (hd : ∀ e, d ≠ .slice e) (hd' : d ≠ .unsafePointer) (hu' : c.P.underlying t' = some (.int k)) (ho : o.op = .convert t t' x) (hx : s.ev x = some (.k k' m)) (hr : k.wrap m = r) : RP c o s (.k k r) := fun g a w hs =>
  ⟨.int k r, .d _ _ (.p _), fun w' => by
    subst hr; simp only [execOp, ho, VRep.p_eq (hs.ev hx)]
    simp [convert, run_underlying hu, run_underlying hu', Conv.intToInt]⟩
theorem qo5 : IntKind.u8.wrap m = m % 256 := IntKind.wrap_u8 m
theorem qO6 : IntKind.u16.wrap m = m % 65536 := IntKind.wrap_u16 m
theorem qO7 (h : 0 ≤ m ∧ m ≤ 9223372036854775807) : IntKind.i64.wrap m = m := qo4 (by omega) (by omega)
theorem qB1 (h : 0 ≤ m ∧ m ≤ 9223372036854775807) : IntKind.u64.wrap m = m := by rw [IntKind.wrap_u64]; omega
end
def V.pure (v : V) : Prop := ∀ r, v.has r = false
def y9 (w : World) (q : Nat → Prop) (g : Nat → Nat × Nat) (vs : List V) (xs : List Value) : Prop := vs.length = xs.length ∧ ∀ (j : Nat) (u : V) (x : Value), vs[j]? = some u → xs[j]? = some x → VRep w q g u x
def Fn (P : Program) (f : FuncId) (args : List V) (post : V → Prop) : Prop := ∀ (w : World) (out : Nat → Prop) (g : Nat → Nat × Nat) (xs : List Value), (∀ b, out b → b < w.heap.size) → y9 w (fun b => ¬ out b) g args xs →
  Calls P f xs.toArray w fun e w' => ∃ v x, e = .returned x ∧ post v ∧ v.pure ∧ VRep w' (fun b => ¬ out b) g v x ∧ Below w.heap.size w w'
theorem Fn.mono {P : Program} {f : FuncId} {args : List V} {post post' : V → Prop} (h : Fn P f args post) (hp : ∀ v, post v → post' v) : Fn P f args post' := fun w out g xs h1 h2 =>
  (h w out g xs h1 h2).mono fun e w' ⟨v, x, h3, h4, h5⟩ => ⟨v, x, h3, hp v h4, h5⟩
structure Is (P : Program) (f : FuncId) (fn : Func) (code : Code) (n : Nat) (rs : List ResultVar) : Prop where
  func : P.funcs[f]? = some fn
  name : (fn.name == "runtime.NumGoroutine") = false
  body : fn.body = some code
  ntmps : fn.ntmps = n
  results : fn.results = rs.toArray
def qw4 (P : Program) (s : S) (r : ResultVar) (v : V) : Prop :=
  match r with
  | .tmp t => fnd s.T t = some v
  | .cell a ty => ∃ r k row d, fnd s.T a = some (.ref r k) ∧ fnd s.H r = some row ∧ row.nil = false ∧ P.underlying ty = some d ∧
      (wD d = false ∧ row.cells[k]? = some v ∨ wD d = true ∧ ∃ sz bt z l, Inf P ty sz bt z ∧ (row.cells.drop k).take sz = l ∧ l.length = sz ∧ v = .agg l)
def uX (P : Program) (s : S) : List ResultVar → List V → Prop
  | [], [] => True
  | r :: rs, v :: vs => qw4 P s r v ∧ uX P s rs vs
  | _, _ => False
def zZ : List V → V
  | [v] => v
  | vs => .tup vs
def QF (P : Program) (rs : List ResultVar) (post : V → Prop) : Exit → S → Prop
  | .normal, s => ∃ vs, uX P s rs vs ∧ post (zZ vs) ∧ (zZ vs).pure
  | .ret, s => ∃ vs, uX P s rs vs ∧ post (zZ vs) ∧ (zZ vs).pure
  | _, _ => False
def vV : Nat → List V → List (Nat × V)
  | _, [] => []
  | n, v :: vs => (n, v) :: vV (n + 1) vs
theorem bD : ∀ (l : List V) (n i : Nat) (v : V), fnd (vV n l) i = some v → n ≤ i ∧ l[i - n]? = some v
  | [], n, i, v, h => by simp [vV, fnd] at h
  | u :: l, n, i, v, h => by
    simp only [vV, fnd] at h
    split at h
    · grind
    · rename_i e
      simp only [beq_iff_eq] at e; obtain ⟨h1, h2⟩ := bD l (n + 1) i v h; refine ⟨by omega, ?_⟩; obtain ⟨m, rfl⟩ : ∃ m, i = n + 1 + m := ⟨i - (n + 1), by omega⟩
      rw [show n + 1 + m - n = m + 1 by omega]
      rw [show n + 1 + m - (n + 1) = m by omega] at h2
      simpa using h2
section
variable {c : Cx} {s : S} {o : Oper} {g : Nat → Nat × Nat} {a : Act} {w : World}
theorem VRep.repure {v : V} {x : Value} {q : Nat → Prop} {g' : Nat → Nat × Nat} (h : VRep w q g v x) (hv : v.pure) : VRep w q g' v x :=
  h.mono Cells.rfl (fun _ h _ => h) (fun r hr => by rw [hv r] at hr; cases hr)
def qc0 (tmps : Array Value) : ResultVar → Sem Value
  | .tmp t => Pure.pure (tmps.getD t undef)
  | .cell p t => do loadVar t (← asAddr (tmps.getD p undef))
theorem jb0 (hs : Sim c g s a w) {r : ResultVar} {v : V} (h : qw4 c.P s r v) :
    ∃ x, VRep w (qt c s.H g) g v x ∧ (qc0 a.tmps r).run c.P w = .ok x w := by
  cases r with
  | tmp t =>
    simp only [qw4] at h; obtain ⟨x, h1, h2⟩ := hs.tmp t v h; refine ⟨x, h2, ?_⟩; simp [qc0, Array.getD_eq_getD_getElem?, h1]
  | cell p ty =>
    simp only [qw4] at h; obtain ⟨r, k, row, d, h1, h2, hn, hu, h3⟩ := h; obtain ⟨y, h4, h5⟩ := hs.tmp p _ h1
    cases h5
    have hp : a.tmps.getD p undef = .pointer (some ⟨(g r).1, k, none⟩) := by simp [Array.getD_eq_getD_getElem?, h4]
    obtain ⟨arr, h6, _, h7⟩ := hs.obj r row h2 hn
    rcases h3 with ⟨hd, hv⟩ | ⟨hd, sz, bt, z, l, hi, hl, zI, rfl⟩
    · obtain ⟨x, h8, h9⟩ := h7 k v hv
      refine ⟨x, h9, ?_⟩; have ux : w.cell? ⟨(g r).1, k, none⟩ = some x := (cell_of_row w _ _ _ _ _ h6).trans h8; simp only [qc0, hp]; simp [asAddr, loadVar, q12 hu, hd, ux]
    · have hat : ∀ (j : Nat) (u : V), l[j]? = some u → row.cells[k + j]? = some u := by grind
      have zv := gX (P := c.P) (w := w) (b := (g r).1) (o := k) (cs := (List.range sz).map fun j => arr.getD (k + j) undef) hu hd hi (by simp) (by
        intro j v hj; have hjs : j < sz := by simpa using (List.getElem?_eq_some_iff.1 hj).1
        simp only [List.getElem?_map, List.getElem?_range hjs, map_some, Option.some.injEq] at hj; obtain ⟨y', h3, h4⟩ := h7 _ l[j] (hat j l[j] (List.getElem?_eq_getElem (by omega))); rw [Array.getD_eq_getD_getElem?, h3] at hj; simp only [getD_some] at hj; subst hj
        exact (cell_of_row w _ _ _ _ _ h6).trans h3)
      refine ⟨_, .agg l ((List.range sz).map fun j => arr.getD (k + j) undef) (by simp [zI]) ?_, ?_⟩
      · intro j u y hj hy
        obtain ⟨y', h3, h4⟩ := h7 _ u (hat j u hj); have hjs : j < sz := by rw [← zI]; exact (List.getElem?_eq_some_iff.1 hj).1
        simp only [List.getElem?_map, List.getElem?_range hjs, map_some, Option.some.injEq] at hy; rw [Array.getD_eq_getD_getElem?, h3] at hy; simp only [getD_some] at hy; subst hy; exact h4
      · simp only [qc0, hp]
        simp [asAddr, zv]
theorem qO8 (hs : Sim c g s a w) : ∀ (rs : List ResultVar) (vs : List V), uX c.P s rs vs →
    ∃ xs : List Value, y9 w (qt c s.H g) g vs xs ∧ (rs.mapM (qc0 a.tmps)).run c.P w = .ok xs w
  | [], [], _ => ⟨[], ⟨rfl, by simp⟩, rfl⟩
  | [], _ :: _, h => h.elim
  | _ :: _, [], h => h.elim
  | r :: rs, v :: vs, h => by
    obtain ⟨x, h1, h2⟩ := jb0 hs h.1; obtain ⟨xs, h3, h4⟩ := qO8 hs rs vs h.2; refine ⟨x :: xs, ⟨by simp [h3.1], fun j u y hu hy => ?_⟩, ?_⟩
    · cases j with
      | zero => simp at hu hy; subst hu hy; exact h1
      | succ j => exact h3.2 j u y (by simpa using hu) (by simpa using hy)
    · simp only [List.mapM_cons, Sem.run_bind, h2, Result.andThen_ok, h4]
      rfl
theorem uD {vs : List V} (hr : fn.results = rs.toArray) (hs : Sim c g s a w) (h : uX c.P s rs vs) : ∃ x, VRep w (qt c s.H g) g (zZ vs) x ∧ (results fn a.tmps).run c.P w = .ok x w := by
  obtain ⟨xs, ⟨h1, h2⟩, h3⟩ := qO8 hs rs vs h
  have hm : (results fn a.tmps).run c.P w = .ok (if h : xs.toArray.size = 1 then xs.toArray[0] else .tuple xs.toArray) w := by
    have h4 : results fn a.tmps = (do let vs ← fn.results.mapM (qc0 a.tmps); pure (if h : vs.size = 1 then vs[0] else .tuple vs)) := by
      unfold results
      congr 2
    rw [h4]; simp only [hr, Sem.run_bind, Array.mapM_eq_mapM_toList, List.toList_toArray, Sem.run_map, h3, Result.andThen_ok]; simp
  match vs, xs, h1, h2, hm with
  | [v], [x], _, h2, hm => exact ⟨x, h2 0 v x rfl rfl, by rw [hm]; rfl⟩
  | [], [], _, h2, hm => exact ⟨_, .tup [] [] rfl (by simp), by rw [hm]; rfl⟩
  | v :: v' :: vs, x :: x' :: xs, h1, h2, hm => exact ⟨_, .tup _ (x :: x' :: xs) h1 h2, by rw [hm]; simp⟩
  | [v], [], h1, _, _ => simp at h1
  | [v], _ :: _ :: _, h1, _, _ => simp at h1
  | [], _ :: _, h1, _, _ => simp at h1
  | _ :: _ :: _, [], h1, _, _ => simp at h1
  | _ :: _ :: _, [_], h1, _, _ => simp at h1
theorem Fn.intro {P : Program} {f : FuncId} {fn : Func} {code : Code} {n : Nat} {rs : List ResultVar} {args : List V} {post : V → Prop} (hf : Is P f fn code n rs) (hp : ∀ v ∈ args, v.pure) (hn : args.length ≤ n)
    (h : ∀ w0 out, AW ⟨P, w0, out, [], []⟩ code (QF P rs post) ⟨n, vV 0 args, [], []⟩) : Fn P f args post := by
  intro w out g xs bE hx; refine calls_of_wp hf.func hf.body ?_
  have hs : Sim ⟨P, w, out, [], []⟩ g ⟨n, vV 0 args, [], []⟩ { tmps := xs.toArray ++ Array.replicate (fn.ntmps - xs.toArray.size) undef, defers := [] } w := by
    refine ⟨?_, rfl, ?_, by simp [fnd], by simp [fnd], by simp, by simp [fnd], by simp [fnd], bE, Below.refl _ _⟩
    · simp [hf.ntmps, ← hx.1]; omega
    · intro i v hv
      obtain ⟨_, h2⟩ := bD args 0 i v hv; simp only [Nat.sub_zero] at h2; have hi : i < xs.length := by rw [← hx.1]; exact (List.getElem?_eq_some_iff.1 h2).1
      refine ⟨xs[i], ?_, ?_⟩
      · grind
      · refine (hx.2 i v _ h2 (List.getElem?_eq_getElem hi)).mono Cells.rfl (fun b hb _ => ⟨hb, by simp [fnd]⟩) (fun r _ => rfl)
  refine wp_mono (h w out g _ w hs) fun e a' w' hq => ?_; obtain ⟨g', s', h1, h2⟩ := hq
  have fin : (∃ vs, uX P s' rs vs ∧ post (zZ vs) ∧ (zZ vs).pure) → a'.defers = [] ∧ ∃ v, (results fn a'.tmps).run P w' = .ok v w' ∧ ∃ v_1 x, Ending.returned v = .returned x ∧ post v_1 ∧ v_1.pure ∧ VRep w' (fun b => ¬ out b) g v_1 x ∧ Below w.heap.size w w' := by
    rintro ⟨vs, k1, k2, k3⟩; obtain ⟨x, k4, k5⟩ := uD (c := ⟨P, w, out, [], []⟩) hf.results h2 k1
    exact ⟨h2.defers, x, k5, _, x, rfl, k2, k3, (k4.repure k3).mono Cells.rfl (fun b hb _ => hb.1) (fun r _ => rfl), h2.below⟩
  cases e with
  | normal => exact fin h1
  | ret => exact fin h1
  | _ => exact h1.elim
theorem wj {ρ : Operand → Value} {fx : Operand} {xs : Array Operand} {ts : Array TypeId} {caps : List Value} {n : Nat} (hf : Is c.P f fn code n rs) (ho : o.op = .call { callee := .value fx, args := xs, argTypes := ts })
    (wc : ρ fx = .func (.func f) #[] caps.toArray) : (execOp ρ o).run c.P w = .ok (.enter f ((xs.toList.map ρ) ++ caps).toArray) w := by
  have hb : fn.body.isNone = false := by rw [hf.body]; rfl
  have hn := hf.name; simp only [execOp, ho, resolve, Deferred.ofValue, wc, invoke, callFunc, Sem.run_bind, Sem.run_pure, Result.andThen_ok]; have hb' : ¬ fn.body = none := by rw [hf.body]; simp
  simp [Sem.run, hf.func, hn, hb, program]; simp at hn; rw [if_neg hn, if_neg hb']; simp [← Array.toList_map]
theorem zS {fx : Operand} {xs : Array Operand} {ts : Array TypeId} {n : Nat} {args : List V} {post : V → Prop} (xY : Fn c.P f args post) (hf : Is c.P f fn code n rs) (ho : o.op = .call { callee := .value fx, args := xs, argTypes := ts })
    (wc : s.ev fx = some (.fn f [])) (xJ : xs.toList.map s.ev = args.map some) (hd : dok s o = true) : StepM c o s (fun s' => ∃ v, post v ∧ v.pure ∧ s' = s.put o.dst v) := by
  intro g a w hs K Q hK
  have uY : a.eval fx = .func (.func f) #[] ([] : List Value).toArray := by
    have h := hs.ev wc; generalize a.eval fx = u at h
    cases h with
    | fn _ _ cs hl _ =>
      obtain rfl : cs = [] := by cases cs with | nil => rfl | cons => simp at hl
      rfl
  have hx : y9 w (fun b => ¬ ¬ qt c s.H g b) g args (xs.toList.map a.eval) := by
    refine ⟨by simpa using (congrArg List.length xJ).symm, fun j u y hu hy => ?_⟩; have h1 := congrArg (fun l => l[j]?) xJ; simp only [List.getElem?_map, hu, map_some] at h1 hy
    cases h2 : xs.toList[j]? with
    | none => rw [h2] at h1; cases h1
    | some p =>
      rw [h2] at h1 hy; simp only [map_some, Option.some.injEq] at h1 hy; subst hy
      exact (hs.ev h1).mono Cells.rfl (fun b hb _ => not_not_intro hb) (fun r _ => rfl)
  unfold Oper.wp; rw [wj (caps := []) hf ho uY]; simp only [Oper.upon, append_nil]; refine (xY w (fun b => ¬ qt c s.H g b) g _ ?_ hx).mono ?_
  · intro b hb
    rcases Classical.em (c.out b) with h | h
    · exact lt_of_lt_of_le (hs.low b h) hs.below.size
    · rcases Classical.em (∃ r row, fnd s.H r = some row ∧ row.nil = false ∧ (g r).1 = b) with ⟨r, row, h1, h2, rfl⟩ | h'
      · obtain ⟨arr, h3, _⟩ := hs.obj r row h1 h2
        exact (Array.getElem?_eq_some_iff.1 h3).1
      · exact absurd ⟨h, fun r row h1 h2 h3 => h' ⟨r, row, h1, h2, h3⟩⟩ hb
  · rintro e w' ⟨v, x, rfl, h1, h2, h3, h4⟩
    refine hK g _ _ _ ⟨v, h1, h2, rfl⟩ ((hs.move h4).put o.dst (zJ hd) ?_) h4
    exact h3.mono Cells.rfl (fun b hb _ => Classical.not_not.1 hb) (fun r _ => rfl)
end
section
variable {c : Cx} {s : S} {o : Oper} {α : Type}
theorem q30 (h : RP c o s (.b b)) (e : b = b') : RP c o s (.b b') := by subst e; exact h
theorem jC9 {t t' : TypeId} {k : IntKind} {n : Int} (ho : o.op = .binOp .eql t x y t') (hx : s.ev x = some (.d (.p (.int k m)))) (hy : s.ev y = some (.d (.p (.int k n)))) (h : m = n) : RP c o s (.b true) := q30 (qw1 ho hx hy) (by simp [h])
theorem jD0 {t t' : TypeId} {k : IntKind} {n : Int} (ho : o.op = .binOp .eql t x y t') (hx : s.ev x = some (.d (.p (.int k m)))) (hy : s.ev y = some (.d (.p (.int k n)))) (h : ¬ m = n) : RP c o s (.b false) := q30 (qw1 ho hx hy) (by simp [h])
theorem jD1 {t t' : TypeId} {k : IntKind} {n : Int} (ho : o.op = .binOp .neq t x y t') (hx : s.ev x = some (.d (.p (.int k m)))) (hy : s.ev y = some (.d (.p (.int k n)))) (h : ¬ m = n) : RP c o s (.b true) := q30 (qO1 ho hx hy) (by simp [h])
theorem jD2 {t t' : TypeId} {k : IntKind} {n : Int} (ho : o.op = .binOp .neq t x y t') (hx : s.ev x = some (.d (.p (.int k m)))) (hy : s.ev y = some (.d (.p (.int k n)))) (h : m = n) : RP c o s (.b false) := q30 (qO1 ho hx hy) (by simp [h])
theorem qB2 {t t' : TypeId} {k : IntKind} {n : Int} (ho : o.op = .binOp .lss t x y t') (hx : s.ev x = some (.d (.p (.int k m)))) (hy : s.ev y = some (.d (.p (.int k n)))) (h : m < n) : RP c o s (.b true) := q30 (qO2 ho hx hy) (by simp [h])
theorem qB3 {t t' : TypeId} {k : IntKind} {n : Int} (ho : o.op = .binOp .lss t x y t') (hx : s.ev x = some (.d (.p (.int k m)))) (hy : s.ev y = some (.d (.p (.int k n)))) (h : ¬ m < n) : RP c o s (.b false) := q30 (qO2 ho hx hy) (by simpa using h)
theorem jD3 {t t' : TypeId} {k : IntKind} {n : Int} (ho : o.op = .binOp .leq t x y t') (hx : s.ev x = some (.d (.p (.int k m)))) (hy : s.ev y = some (.d (.p (.int k n)))) (h : m ≤ n) : RP c o s (.b true) := q30 (jh2 ho hx hy) (by simp [h])
theorem jD4 {t t' : TypeId} {k : IntKind} {n : Int} (ho : o.op = .binOp .leq t x y t') (hx : s.ev x = some (.d (.p (.int k m)))) (hy : s.ev y = some (.d (.p (.int k n)))) (h : ¬ m ≤ n) : RP c o s (.b false) := q30 (jh2 ho hx hy) (by simpa using h)
theorem jD5 {t t' : TypeId} {k : IntKind} {n : Int} (ho : o.op = .binOp .gtr t x y t') (hx : s.ev x = some (.d (.p (.int k m)))) (hy : s.ev y = some (.d (.p (.int k n)))) (h : n < m) : RP c o s (.b true) := q30 (jh3 ho hx hy) (by simp [h])
theorem jD6 {t t' : TypeId} {k : IntKind} {n : Int} (ho : o.op = .binOp .gtr t x y t') (hx : s.ev x = some (.d (.p (.int k m)))) (hy : s.ev y = some (.d (.p (.int k n)))) (h : ¬ n < m) : RP c o s (.b false) := q30 (jh3 ho hx hy) (by simpa using h)
theorem jD7 {t t' : TypeId} {k : IntKind} {n : Int} (ho : o.op = .binOp .geq t x y t') (hx : s.ev x = some (.d (.p (.int k m)))) (hy : s.ev y = some (.d (.p (.int k n)))) (h : n ≤ m) : RP c o s (.b true) := q30 (qO3 ho hx hy) (by simp [h])
theorem jD8 {t t' : TypeId} {k : IntKind} {n : Int} (ho : o.op = .binOp .geq t x y t') (hx : s.ev x = some (.d (.p (.int k m)))) (hy : s.ev y = some (.d (.p (.int k n)))) (h : ¬ n ≤ m) : RP c o s (.b false) := q30 (qO3 ho hx hy) (by simpa using h)
theorem Fn.decT {args : List V} [Decidable p] (h : Fn P f args (fun v => v = .b (decide p))) (hp : p) : Fn P f args (fun v => v = .b true) := h.mono fun v hv => by rw [hv, decide_eq_true hp]
theorem Fn.decF {args : List V} [Decidable p] (h : Fn P f args (fun v => v = .b (decide p))) (hp : ¬ p) : Fn P f args (fun v => v = .b false) := h.mono fun v hv => by rw [hv, decide_eq_false hp]
theorem js {Q : Exit → S → Prop} (hc : s.ev x = some (.b true)) (h : AW c t Q s) : AW c (.cond x t e) Q s := j7 hc (fun _ => h) (fun h' => by cases h')
theorem jt {Q : Exit → S → Prop} (hc : s.ev x = some (.b false)) (h : AW c e Q s) : AW c (.cond x t e) Q s := j7 hc (fun h' => by cases h') (fun _ => h)
theorem x7 {t e : TypeId} {bt' k : Nat} {l : List α} {f : α → List D} {y : α} (hu : c.P.underlying t = some (.slice e)) (hi : Inf c.P e sz bt z) (ho : o.op = .indexAddr t x i) (hx : s.ev x = some (.d (.sl sz bt' (l.map f)))) (hy : s.ev i = some (.d (.p (.int kd n'))))
    (hk : n' = (k : Int)) (hl : l[k]? = some y) : RP c o s (.ad (f y)) := j12 hu hi ho hx hy hk (by simp [hl])
theorem jb1 {t e : TypeId} {x : Operand} {sz bt' n : Nat} {l : List α} {f : α → List D} (hu : c.P.underlying t = some (.slice e)) (ho : o.op = .call { callee := .builtin .len, args := #[x], argTypes := #[t] }) (hx : s.ev x = some (.d (.sl sz bt' (l.map f)))) (hl : l.length = n) : RP c o s (.i (n : Int)) := by
  grind [jh4, length_map]
theorem w6 {t : TypeId} {d : TypeDesc} {r k : Nat} {l : List α} {f : α → V} {y : α} (hu : c.P.underlying t = some d) (hd : wD d = false) (ho : o.op = .load t x) (hx : s.ev x = some (.ref r (k * 1))) (hr : fnd s.H r = some row) (hn : row.nil = false) (hf : row.cells = l.map f) (hl : l[k]? = some y) : RD c o s (f y) :=
  xO hu hd ho hx hr hn (by rw [hf]; simp [hl])
theorem qO9 {t : TypeId} {r k : Nat} {l : List α} {f : α → V} {v : α} (hi : Inf c.P t 1 bt z) (ho : o.op = .store t x y) (hd : o.dst = none) (hx : s.ev x = some (.ref r (k * 1))) (hy : s.ev y = some (f v)) (hr : fnd s.H r = some row) (hn : row.nil = false)
    (hf : row.cells = l.map f) (x6 : (f v).one = true) (q29 : k < l.length) : vm c o s (fun s' => s' = { s with H := (r, { row with cells := (l.set k v).map f }) :: s.H }) :=
  vA hi ho hd hx hy hr hn x6 (by rw [hf]; simpa using q29) (by rw [hf, map_set, Nat.mul_one])
theorem vg (r : Nat) {t e : TypeId} {n : Nat} (f : α → V) (z' : α) (hu : c.P.underlying t = some (.slice e)) (hi : Inf c.P e 1 bt z) (hz : z.oneCell' = true) (hzf : V.d (.p z) = f z') (ho : o.op = .makeSlice t x x) (hx : s.ev x = some (.i n')) (hn : n' = (n : Int)) (hb : n ≤ 1000000) (hbt : bt ≤ 64) (hr : s.clean r = true) (hd : dok s o = true) :
    StepM c o s (fun s' => s' = s.newObj r ⟨e, (List.replicate n z').map f, false, 1⟩ o.dst (.own r 1 n false)) := by
  rw [List.map_replicate, ← hzf]; exact qr7 r hu hi hz ho hx hn hb hbt hr hd
def LT (s : S) : List (Nat × V) → Prop
  | [] => True
  | (i, v) :: r => (∃ u, fnd s.T i = some u ∧ Wk v u) ∧ LT s r
def LH (s : S) : List (Nat × Row) → Prop
  | [] => True
  | (i, row) :: r => fnd s.H i = some row ∧ LH s r
theorem LT.get {s : S} : ∀ {l : List (Nat × V)}, LT s l → ∀ (i : Nat) (v : V), fnd l i = some v → ∃ u, fnd s.T i = some u ∧ Wk v u
  | [], _, i, v, h => by simp [fnd] at h
  | (k, u) :: r, hl, i, v, h => by
    simp only [fnd] at h
    split at h
    · rename_i e
      simp only [beq_iff_eq] at e; subst e; simp only [Option.some.injEq] at h; subst h; exact hl.1
    · exact LT.get hl.2 i v h
theorem LH.get {s : S} : ∀ {l : List (Nat × Row)}, LH s l → ∀ (i : Nat) (v : Row), fnd l i = some v → fnd s.H i = some v
  | [], _, i, v, h => by simp [fnd] at h
  | (k, u) :: r, hl, i, v, h => by
    simp only [fnd] at h
    split at h
    · rename_i e
      simp only [beq_iff_eq] at e; subst e; simp only [Option.some.injEq] at h; subst h; exact hl.1
    · exact LH.get hl.2 i v h
theorem Less.of {s' s : S} (hn : s'.n = s.n) (hT : LT s s'.T) (hH : LH s s'.H) (hK : s'.K = s.K) : Less s' s :=
  ⟨hn, fun i v h => hT.get i v h, fun r row h => ⟨row, hH.get r row h, rfl, rfl, rfl, fun j v hv => ⟨v, hv, .refl _⟩⟩, fun j v h => ⟨v, by rw [← hK]; exact h, .refl _⟩⟩
def S.nat (s : S) (t : Nat) : Nat :=
  match fnd s.T t with
  | some (.d (.p (.int _ n))) => n.toNat
  | _ => 0
@[simp] theorem qc1 (r : Nat) (l : List α) (f : α → D) : V.hasL r (l.map (fun x => V.d (f x))) = false := by simp [V.hasL_false, V.has]
@[simp] theorem xm (r : Nat) (l : List Int) : V.hasL r (l.map V.i) = false := by simp [V.hasL_false, V.has]
@[simp] theorem xF (r : Nat) (l : List Bool) : V.hasL r (l.map V.b) = false := by simp [V.hasL_false, V.has]
@[simp] theorem xG (r : Nat) (l : List ByteArray) : V.hasL r (l.map V.s) = false := by simp [V.hasL_false, V.has]
abbrev V.n (x : Nat) : V := V.i (x : Int)
@[simp] theorem xc (r : Nat) (l : List Nat) : V.hasL r (l.map V.n) = false := by simp [V.hasL_false, V.has]
@[simp] theorem x4 (r n : Nat) (x : D) : V.hasL r (List.replicate n (V.d x)) = false := by simp [V.hasL_false, V.has]
theorem q9 {Q : Exit → S → Prop} {X : S} (hg : o.guard = none) (h : StepM c o s (fun s' => s' = X)) (hN : AL c ops rest Q X) : AL c ops (o :: rest) Q s :=
  j9 hg fun g a w hs K Q' hK => h g a w hs K Q' fun g' s' a' w' e h1 h2 => hK g' s' a' w' (by subst e; exact hN) h1 h2
theorem qf {Q : Exit → S → Prop} {X : S} (hg : o.guard = none) (h : vm c o s (fun s' => s' = X)) (hN : AL c ops rest Q X) : AL c ops (o :: rest) Q s :=
  qN hg fun g a w hs K Q' hK => h g a w hs K Q' fun g' s' a' w' e h1 => hK g' s' a' w' (by subst e; exact hN) h1
theorem qh {Q : Exit → S → Prop} {post : V → Prop} (hg : o.guard = none) (h : StepM c o s (fun s' => ∃ v, post v ∧ v.pure ∧ s' = s.put o.dst v)) (hN : ∀ v, post v → v.pure → AL c ops rest Q (s.put o.dst v)) : AL c ops (o :: rest) Q s :=
  j9 hg fun g a w hs K Q' hK => h g a w hs K Q' fun g' s' a' w' ⟨v, h1, h2, e⟩ h3 h4 => hK g' s' a' w' (by subst e; exact hN v h1 h2) h3 h4
theorem qj {Q : Exit → S → Prop} {post : V → Prop} (hg : o.guard = some (j, b)) (hy : yld ops s j = some b) (h : StepM c o s (fun s' => ∃ v, post v ∧ v.pure ∧ s' = s.put o.dst v)) (hN : ∀ v, post v → v.pure → AL c ops rest Q (s.put o.dst v)) : AL c ops (o :: rest) Q s :=
  jr hg hy fun g a w hs K Q' hK => h g a w hs K Q' fun g' s' a' w' ⟨v, h1, h2, e⟩ h3 h4 => hK g' s' a' w' (by subst e; exact hN v h1 h2) h3
theorem qU {Q : Exit → S → Prop} {v : V} (hg : o.guard = some (j, b)) (hy : yld ops s j = some b) (hd : dok s o = true) (h : RD c o s v) (hN : AL c ops rest Q (s.put o.dst v)) : AL c ops (o :: rest) Q s :=
  jr hg hy (h.stepM hd hN).step
theorem ju {Q : Exit → S → Prop} {v : V} (hg : o.guard = some (j, b)) (hy : yld ops s j = some b) (hd : dok s o = true) (h : RP c o s v) (hN : AL c ops rest Q (s.put o.dst v)) : AL c ops (o :: rest) Q s :=
  qU hg hy hd h.rd hN
theorem qB {Q : Exit → S → Prop} (t r sz : Nat) (ty : TypeId) (ht : fnd s.T t = some .nil) (hr : s.clean r = true) (h : AW c code Q ⟨s.n, (t, .own r sz 0 true) :: s.T, (r, ⟨ty, [], true, sz⟩) :: s.H, s.K⟩) : AW c code Q s := by
  intro g a w hs; refine h g a w ?_
  have hq : ∀ b, qt c s.H g b → b < w.heap.size → qt c ((r, (⟨ty, [], true, sz⟩ : Row)) :: s.H) g b := by
    intro b hb _; refine ⟨hb.1, fun k row hk hn => ?_⟩; simp only [fnd] at hk
    split at hk
    · grind
    · exact hb.2 k row hk hn
  have hm : ∀ {v x}, VRep w (qt c s.H g) g v x → VRep w (qt c ((r, (⟨ty, [], true, sz⟩ : Row)) :: s.H) g) g v x := fun hv => hv.mono Cells.rfl hq (fun _ _ => rfl)
  have xY : ∀ k row, fnd ((r, (⟨ty, [], true, sz⟩ : Row)) :: s.H) k = some row → row.nil = false → fnd s.H k = some row := by grind [fnd, Option.some.injEq]
  refine ⟨hs.size, hs.defers, ?_, ?_, ?_, ?_, ?_, ?_, hs.low, hs.below⟩
  · intro i v hv
    simp only [fnd] at hv
    split at hv
    · rename_i e
      simp only [beq_iff_eq] at e; subst e; simp only [Option.some.injEq] at hv; subst hv; obtain ⟨x, h1, h2⟩ := hs.tmp _ _ ht; refine ⟨x, h1, ?_⟩; rw [VRep.p_eq h2]; exact .ownNil r sz
    · obtain ⟨x, h1, h2⟩ := hs.tmp i v hv
      exact ⟨x, h1, hm h2⟩
  · intro k row hk hn
    simp only [fnd] at hk
    split at hk
    · simp only [Option.some.injEq] at hk; subst hk; rfl
    · exact hs.nul k row hk hn
  · intro k row hk hn
    obtain ⟨arr, h1, h2, h3⟩ := hs.obj k row (xY k row hk hn) hn; refine ⟨arr, h1, h2, fun j v hv => ?_⟩; obtain ⟨x, h4, h5⟩ := h3 j v hv; exact ⟨x, h4, hm h5⟩
  · intro j v x h1 h2
    exact hm (hs.keep j v x h1 h2)
  · intro k k' row row' h1 n1 h2 n2 h3
    exact hs.inj k k' row row' (xY k row h1 n1) n1 (xY k' row' h2 n2) n2 h3
  · intro k row h1 n1
    exact hs.base k row (xY k row h1 n1) n1
theorem Sim.freeze {g : Nat → Nat × Nat} {a : Act} {w : World} (hs : Sim c g s a w) {t r n : Nat} {f : Bool} {rows : List (List D)} (ht : fnd s.T t = some (.own r sz n f)) (hr : fnd s.H r = some row) (hf : row.nil = f) (zI : rows.length = n) (hn : n * bt ≤ 140737488355328)
    (ww : ∀ (i j : Nat) (l : List D) (u : D), rows[i]? = some l → l[j]? = some u → row.cells[i * sz + j]? = some (.d u)) : Sim c g ⟨s.n, (t, .d (.sl sz bt rows)) :: s.T, s.H.filter (fun x => x.1 != r), s.K⟩ a w := by
  have xY : ∀ k row', fnd (s.H.filter (fun x => x.1 != r)) k = some row' → k ≠ r ∧ fnd s.H k = some row' := by
    intro k row' hk; have e : k ≠ r := by rintro rfl; rw [yj] at hk; cases hk
    rw [yA r _ _ e] at hk; exact ⟨e, hk⟩
  have hq : ∀ b, qt c s.H g b → b < w.heap.size → qt c (s.H.filter (fun x => x.1 != r)) g b := fun b hb _ => ⟨hb.1, fun k row' hk hn => hb.2 k row' (xY k row' hk).2 hn⟩
  have hm : ∀ {v x}, VRep w (qt c s.H g) g v x → VRep w (qt c (s.H.filter (fun x => x.1 != r)) g) g v x := fun hv => hv.mono Cells.rfl hq (fun _ _ => rfl)
  refine ⟨hs.size, hs.defers, ?_, ?_, ?_, ?_, ?_, ?_, hs.low, hs.below⟩
  · intro i v hv
    simp only [fnd] at hv
    split at hv
    · rename_i e
      simp only [beq_iff_eq] at e; subst e; simp only [Option.some.injEq] at hv; subst hv; obtain ⟨x, h1, h2⟩ := hs.tmp _ _ ht; refine ⟨x, h1, .d _ _ ?_⟩
      cases h2 with
      | own _ _ _ hle vK =>
        obtain ⟨arr, h3, _, h4⟩ := hs.obj r row hr hf; subst zI
        have hob : ¬ c.out (g r).1 := fun h => by
          have h5 := hs.low _ h; have h6 := hs.base r row hr hf; omega
        refine .sl sz bt rows _ _ (g r).1 0 (fun i j => arr.getD (i * sz + j) undef) (by omega) (fun _ => ⟨rfl, ⟨hob, fun k row' hk xU e => ?_⟩, (Array.getElem?_eq_some_iff.1 h3).1⟩) hn ?_ ?_
        · obtain ⟨k1, k2⟩ := xY k row' hk
          exact k1 (hs.inj k r _ _ k2 xU hr hf e)
        · intro i j l u hi hj
          obtain ⟨y, h5, h6⟩ := h4 _ _ (ww i j l u hi hj); rw [zero_add, cell_of_row w _ _ _ _ _ h3, h5]; simp [Array.getD_eq_getD_getElem?, h5]
        · intro i j l u hi hj
          obtain ⟨y, h5, h6⟩ := h4 _ _ (ww i j l u hi hj)
          cases hm h6 with
          | d _ _ h7 => simpa [Array.getD_eq_getD_getElem?, h5] using h7
      | ownNil =>
        have : rows = [] := by simpa using zI
        subst this
        exact .sl sz bt [] none 0 0 0 (fun _ _ => undef) (le_refl 0) (fun h => absurd rfl h) (by simp) (by simp) (by simp)
    · obtain ⟨x, h1, h2⟩ := hs.tmp i v hv
      exact ⟨x, h1, hm h2⟩
  · intro k row' hk hn
    exact hs.nul k row' (xY k row' hk).2 hn
  · intro k row' hk hn
    obtain ⟨arr, h1, h2, h3⟩ := hs.obj k row' (xY k row' hk).2 hn; refine ⟨arr, h1, h2, fun j v hv => ?_⟩; obtain ⟨x, h4, h5⟩ := h3 j v hv; exact ⟨x, h4, hm h5⟩
  · intro j v x h1 h2
    exact hm (hs.keep j v x h1 h2)
  · intro k k' row row' h1 n1 h2 n2 h3
    exact hs.inj k k' row row' (xY k row h1).2 n1 (xY k' row' h2).2 n2 h3
  · intro k row h1 n1
    exact hs.base k row (xY k row h1).2 n1
theorem qk {Q : Exit → S → Prop} {code : Code} (t bt : Nat) {r n : Nat} {f : Bool} (rows : List (List D)) (ht : fnd s.T t = some (.own r sz n f)) (hr : fnd s.H r = some row) (hf : row.nil = f) (zI : rows.length = n) (hn : n * bt ≤ 140737488355328)
    (ww : ∀ (i j : Nat) (l : List D) (u : D), rows[i]? = some l → l[j]? = some u → row.cells[i * sz + j]? = some (.d u)) (h : AW c code Q ⟨s.n, (t, .d (.sl sz bt rows)) :: s.T, s.H.filter (fun x => x.1 != r), s.K⟩) : AW c code Q s :=
  fun g a w hs => h g a w (hs.freeze ht hr hf zI hn ww)
theorem jG {Q : Exit → S → Prop} {ops : Array Oper} {l' : List Oper} (t bt : Nat) {r n : Nat} {f : Bool} (rows : List (List D)) (ht : fnd s.T t = some (.own r sz n f)) (hr : fnd s.H r = some row) (hf : row.nil = f) (zI : rows.length = n) (hn : n * bt ≤ 140737488355328)
    (ww : ∀ (i j : Nat) (l : List D) (u : D), rows[i]? = some l → l[j]? = some u → row.cells[i * sz + j]? = some (.d u)) (h : AL c ops l' Q ⟨s.n, (t, .d (.sl sz bt rows)) :: s.T, s.H.filter (fun x => x.1 != r), s.K⟩) : AL c ops l' Q s :=
  fun g a w hs => h g a w (hs.freeze ht hr hf zI hn ww)
theorem yk {l : List α} {f : α → D} {cells : List V} (h : cells = l.map (fun x => V.d (f x))) : ∀ (i j : Nat) (l' : List D) (u : D), (l.map (fun x => [f x]))[i]? = some l' → l'[j]? = some u → cells[i * 1 + j]? = some (.d u) := by
  grind
end
theorem qB4 : ∀ (l : List Nat) (vs : List V) (i : Nat) (v : V), fnd (l.zip vs) i = some v → ∃ j : Nat, l[j]? = some i ∧ vs[j]? = some v
  | [], vs, i, v, h => by simp [fnd] at h
  | k :: l, [], i, v, h => by simp [fnd] at h
  | k :: l, u :: vs, i, v, h => by
    simp only [zip_cons_cons, fnd] at h
    split at h
    · rename_i e
      simp only [beq_iff_eq] at e; subst e; simp only [Option.some.injEq] at h; subst h; exact ⟨0, rfl, rfl⟩
    · obtain ⟨j, h1, h2⟩ := qB4 l vs i v h
      exact ⟨j + 1, by simpa using h1, by simpa using h2⟩
def QI (P : Program) (rs : List ResultVar) (n : Nat) (l : List Nat) (d : Option Tmp) (N : S → Prop) : Exit → S → Prop
  | .normal, s => ∃ vs, uX P s rs vs ∧ N (S.put ⟨n, l.zip s.K, s.H, s.K.drop l.length⟩ d (zZ vs))
  | .ret, s => ∃ vs, uX P s rs vs ∧ N (S.put ⟨n, l.zip s.K, s.H, s.K.drop l.length⟩ d (zZ vs))
  | _, _ => False
section
variable {c : Cx} {s : S} {o : Oper}
theorem qH0 (l : List Nat) {ts : List V} {fx : Operand} {xs : Array Operand} {tys : Array TypeId} {caps : List V} {n : Nat} {ars : List V} {N : S → Prop} (hts : l.map (fun i => fnd s.T i) = ts.map some) (hf : Is c.P f fn code n rs)
    (ho : o.op = .call { callee := .value fx, args := xs, argTypes := tys }) (wc : s.ev fx = some (.fn f caps)) (xJ : xs.toList.map s.ev = ars.map some) (hn : ars.length + caps.length ≤ n) (hd : dok s o = true)
    (h : ∀ kx, AW ⟨c.P, c.w0, c.out, kx, []⟩ code (QI c.P rs s.n l o.dst N) ⟨n, vV 0 (ars ++ caps), s.H, ts ++ s.K⟩) : vm c o s N := by
  intro g a w hs K Q hK; have hfv := hs.ev wc
  obtain ⟨cs, uY, xM, hcr⟩ : ∃ cs : List Value, a.eval fx = .func (.func f) #[] cs.toArray ∧ caps.length = cs.length ∧ ∀ (j : Nat) (u : V) (y : Value), caps[j]? = some u → cs[j]? = some y → VRep w (qt c s.H g) g u y := by
    generalize a.eval fx = u at hfv
    cases hfv with
    | fn _ _ cs hl h => exact ⟨cs, rfl, hl, h⟩
  have qP0 : ars.length = xs.toList.length := by simpa using (congrArg List.length xJ).symm
  have jo8 : ∀ (j : Nat) (u : V) (y : Value), ars[j]? = some u → (xs.toList.map a.eval)[j]? = some y → VRep w (qt c s.H g) g u y := by
    intro j u y hu hy; have h1 := congrArg (fun l => l[j]?) xJ; simp only [List.getElem?_map, hu, map_some] at h1 hy
    cases h2 : xs.toList[j]? with
    | none => rw [h2] at h1; cases h1
    | some p =>
      rw [h2] at h1 hy; simp only [map_some, Option.some.injEq] at h1 hy; subst hy; exact hs.ev h1
  have wB : l.length = ts.length := by simpa using congrArg List.length hts
  have zk : ∀ (j i : Nat) (v : V), l[j]? = some i → ts[j]? = some v → fnd s.T i = some v := by
    intro j i v h1 h2; have h3 := congrArg (fun l => l[j]?) hts; simp only [List.getElem?_map, h1, h2, map_some, Option.some.injEq] at h3; exact h3
  have xn : ∀ (j i : Nat), l[j]? = some i → ∃ v x, ts[j]? = some v ∧ fnd s.T i = some v ∧ a.tmps[i]? = some x ∧ VRep w (qt c s.H g) g v x := by
    intro j i h1; have hj : j < ts.length := by rw [← wB]; exact (List.getElem?_eq_some_iff.1 h1).1
    have h2 := zk j i ts[j] h1 (List.getElem?_eq_getElem hj); obtain ⟨x, h3, h4⟩ := hs.tmp i _ h2; exact ⟨_, x, List.getElem?_eq_getElem hj, h2, h3, h4⟩
  have bG : Sim ⟨c.P, c.w0, c.out, l.map (fun i => a.tmps.getD i undef) ++ c.kx, []⟩ g ⟨n, vV 0 (ars ++ caps), s.H, ts ++ s.K⟩ { tmps := ((xs.toList.map a.eval) ++ cs).toArray ++ Array.replicate (fn.ntmps - ((xs.toList.map a.eval) ++ cs).toArray.size) undef, defers := [] } w := by
    refine ⟨?_, rfl, ?_, hs.nul, hs.obj, ?_, hs.inj, hs.base, hs.low, hs.below⟩
    · simp [hf.ntmps]; simp at qP0; omega
    · intro i v hv
      obtain ⟨_, h2⟩ := bD _ 0 i v hv; simp only [Nat.sub_zero] at h2; have hi : i < ((xs.toList.map a.eval) ++ cs).length := by grind
      refine ⟨((xs.toList.map a.eval) ++ cs)[i], ?_, ?_⟩
      · grind
      · by_cases hia : i < ars.length
        · rw [List.getElem?_append_left hia] at h2
          refine jo8 i v _ h2 ?_; have hi' : i < (xs.toList.map a.eval).length := by simp at qP0 ⊢; omega
          rw [List.getElem_append_left hi']; exact List.getElem?_eq_getElem hi'
        · rw [List.getElem?_append_right (by omega)] at h2
          refine hcr _ v _ h2 ?_; have hi' : (xs.toList.map a.eval).length ≤ i := by simp at qP0 ⊢; omega
          rw [List.getElem_append_right hi']; have e : (xs.toList.map a.eval).length = ars.length := by simp at qP0 ⊢; omega
          rw [← List.getElem?_eq_getElem, e]
    · intro j v x h1 h2
      by_cases hj : j < ts.length
      · rw [List.getElem?_append_left hj] at h1
        rw [List.getElem?_append_left (by simp; omega)] at h2; simp only [List.getElem?_map] at h2
        cases h3 : l[j]? with
        | none => rw [h3] at h2; cases h2
        | some i =>
          rw [h3] at h2; simp only [map_some, Option.some.injEq] at h2; obtain ⟨v', x', h4, h5, h6, h7⟩ := xn j i h3; rw [h4] at h1; simp only [Option.some.injEq] at h1; subst h1; have : x = x' := by rw [← h2]; simp [Array.getD_eq_getD_getElem?, h6]
          subst this; exact h7
      · rw [List.getElem?_append_right (by omega)] at h1
        rw [List.getElem?_append_right (by simp; omega)] at h2; refine hs.keep (j - ts.length) v x h1 ?_
        simpa [wB] using h2
  unfold Oper.wp; rw [wj (caps := cs) hf ho uY]; simp only [Oper.upon]; refine calls_of_wp hf.func hf.body (wp_mono (h (l.map (fun i => a.tmps.getD i undef) ++ c.kx) g _ w bG) fun e a1 w1 hq => ?_); obtain ⟨g1, s1, h1, h2⟩ := hq
  have fin : (∃ vs, uX c.P s1 rs vs ∧ N (S.put ⟨s.n, l.zip s1.K, s1.H, s1.K.drop l.length⟩ o.dst (zZ vs))) →
      a1.defers = [] ∧ ∃ v, (results fn a1.tmps).run c.P w1 = .ok v w1 ∧ K (a.put o.dst v) w1 := by
    rintro ⟨vs, k1, k2⟩
    obtain ⟨x, k3, k4⟩ := uD (c := ⟨c.P, c.w0, c.out, l.map (fun i => a.tmps.getD i undef) ++ c.kx, []⟩) hf.results h2 k1
    refine ⟨h2.defers, x, k4, ?_⟩; refine hK g1 _ _ _ k2 (Sim.put (s := ⟨s.n, l.zip s1.K, s1.H, s1.K.drop l.length⟩) (c := c) ?_ o.dst (zJ (s := s) hd) k3); refine ⟨hs.size, hs.defers, ?_, h2.nul, h2.obj, ?_, h2.inj, h2.base, h2.low, h2.below⟩
    · intro i v hv
      obtain ⟨j, h3, h4⟩ := qB4 _ _ i v hv; obtain ⟨v', x', h5, h6, h7, h8⟩ := xn j i h3; refine ⟨x', h7, h2.keep j v x' h4 ?_⟩; have hj : j < l.length := (List.getElem?_eq_some_iff.1 h3).1; simp only; rw [List.getElem?_append_left (by simpa using hj)]; simp [h3, Array.getD_eq_getD_getElem?, h7]
    · intro j v x h3 h4
      refine h2.keep (l.length + j) v x (by simpa using h3) ?_; simp only; rw [List.getElem?_append_right (by simp)]
      simpa using h4
  cases e with
  | normal => exact fin h1
  | ret => exact fin h1
  | _ => exact h1.elim
theorem AL.inline (l : List Nat) {ts : List V} {fx : Operand} {xs : Array Operand} {tys : Array TypeId} {caps : List V} {n : Nat} {ars : List V} {Q : Exit → S → Prop} {ops : Array Oper} {rest : List Oper} (hg : o.guard = none) (hts : l.map (fun i => fnd s.T i) = ts.map some) (hf : Is c.P f fn code n rs)
    (ho : o.op = .call { callee := .value fx, args := xs, argTypes := tys }) (wc : s.ev fx = some (.fn f caps)) (xJ : xs.toList.map s.ev = ars.map some) (hn : ars.length + caps.length ≤ n) (hd : dok s o = true)
    (h : ∀ kx, AW ⟨c.P, c.w0, c.out, kx, []⟩ code (QI c.P rs s.n l o.dst (AL c ops rest Q)) ⟨n, vV 0 (ars ++ caps), s.H, ts ++ s.K⟩) : AL c ops (o :: rest) Q s :=
  qN hg (qH0 l hts hf ho wc xJ hn hd h)
end
end Go.Proofs.YthiknkcigcglkaaGreatDoor
