/- reach.Trim, with the states and all their arcs still to be changed. -/
import Derived.Test.YtjbldphpkkmdpaaAmTrim
import Derived.Test.YtjbldphpkkmdpaaAmW
import Derived.Test.YtjbldphpkkmdpaaAmGs
import Derived.Test.YtjbldphpkkmdpaaAmX
namespace Go.Proofs.Ytjbldphpkkmdpaa
open Go.RowKit
set_option linter.unusedSimpArgs false
set_option linter.unusedVariables false
set_option maxRecDepth 100000

theorem flat_lenF {sz : Nat} : ∀ (rows : List (List D)), (∀ l ∈ rows, l.length = sz) → rows.flatten.length = rows.length * sz
 | [], _ => by simp
 | l :: rows, h => by
  rw [List.flatten_cons, List.length_append, flat_lenF rows (fun x hx => h x (by simp [hx])), h l (by simp), List.length_cons, Nat.succ_mul, Nat.add_comm]
theorem flat_getF {sz : Nat} : ∀ (rows : List (List D)) (i j : Nat) (l0 : List D) (u : D), (∀ l ∈ rows, l.length = sz) → rows[i]? = some l0 → l0[j]? = some u → rows.flatten[i * sz + j]? = some u
 | [], i, j, l0, u, _, h, _ => by simp at h
 | l :: rows, 0, j, l0, u, hl, h, hu => by
  simp at h
  subst h
  have hj := (List.getElem?_eq_some_iff.1 hu).1
  rw [List.flatten_cons, Nat.zero_mul, Nat.zero_add, List.getElem?_append_left hj, hu]
 | l :: rows, i + 1, j, l0, u, hl, h, hu => by
  have hlen := hl l (by simp)
  rw [List.flatten_cons, List.getElem?_append_right (by rw [hlen, Nat.succ_mul]; omega), hlen, show (i + 1) * sz + j - sz = i * sz + j by rw [Nat.succ_mul]; omega]
  exact flat_getF rows i j l0 u (fun x hx => hl x (by simp [hx])) (by simpa using h) hu
theorem flat_setF {sz : Nat} : ∀ (rows : List (List D)) (i j : Nat) (l0 : List D) (v : D), (∀ l ∈ rows, l.length = sz) → rows[i]? = some l0 → j < sz → (rows.set i (l0.set j v)).flatten = rows.flatten.set (i * sz + j) v
 | [], i, j, l0, v, _, h, _ => by simp at h
 | l :: rows, 0, j, l0, v, hl, h, hj => by
  simp at h
  subst h
  have hlen := hl l (by simp)
  rw [List.set_cons_zero, List.flatten_cons, List.flatten_cons, Nat.zero_mul, Nat.zero_add, List.set_append_left _ _ (by omega)]
 | l :: rows, i + 1, j, l0, v, hl, h, hj => by
  have hlen := hl l (by simp)
  rw [List.set_cons_succ, List.flatten_cons, List.flatten_cons, List.set_append_right _ _ (by rw [hlen, Nat.succ_mul]; omega), hlen, show (i + 1) * sz + j - sz = i * sz + j by rw [Nat.succ_mul]; omega]
  rw [flat_setF rows i j l0 v (fun x hx => hl x (by simp [hx])) (by simpa using h) hj]

section
variable {β : Type} {F : Fam β} {c : Cx} {s : S} {o : Oper} {Q : Exit → S → Prop}
theorem Fam.cells_same : ∀ (L : List β) (k p : Nat) (x x' : β), L[p]? = some x → F.pre x' = F.pre x → (F.it x').length = (F.it x).length → F.cells k (L.set p x') = F.cells k L
 | [], k, p, x, x', h, _, _ => by simp at h
 | y :: L, k, 0, x, x', h, hp, hi => by
  simp at h
  subst h
  have e : (F.it x').isEmpty = (F.it y).isEmpty := by
   cases h1 : F.it x' <;> cases h2 : F.it y <;> simp_all
  simp only [List.set_cons_zero, Fam.cells, hp, Fam.ownV, hi, e]
 | y :: L, k, p + 1, x, x', h, hp, hi => by
  simp only [List.set_cons_succ, Fam.cells]
  rw [Fam.cells_same L (k + 1) p x x' (by simpa using h) hp hi]
theorem fit_fnd {lits : List (Nat × Row)} {L : List β} {base p : Nat} {x0 : β} (hH : s.H = lits ++ F.objs base L) (hlow : lits.all (fun x => decide (x.1 < base)) = true) (hp : L[p]? = some x0) : fnd s.H (base + p) = some (F.row x0) := by
 rw [hH, fnd_app, fnd_low hlow (by omega), Fam.objs_get, hp]; rfl
/-- A cell of an element of one of the slices. -/
theorem rd_load_fit {t : TypeId} {d : TypeDesc} {x : Operand} {k p i j base : Nat} {lits : List (Nat × Row)} {L : List β} {x0 : β} {l0 : List D} {v : D} (hu : c.P.underlying t = some d) (hd : isAggD d = false) (ho : o.op = .load t x) (hx : s.ev x = some (.ref (base + p) k)) (hH : s.H = lits ++ F.objs base L) (hlow : lits.all (fun x => decide (x.1 < base)) = true)
  (hp : L[p]? = some x0) (hk : k = i * F.sz + j) (hl : (F.it x0)[i]? = some l0) (hrow : ∀ x, ∀ l ∈ F.it x, l.length = F.sz) (hv : l0[j]? = some v) : RD c o s (.d v) := by
 have hne : (F.it x0).isEmpty = false := by
  cases h : F.it x0 with
  | nil => rw [h] at hl; simp at hl
  | cons => rfl
 refine rd_load_ref hu hd ho hx (fit_fnd hH hlow hp) hne ?_
 simp only [Fam.row, hk, List.getElem?_map, flat_getF (F.it x0) i j l0 v (hrow x0) hl hv, Option.map_some]
/-- A cell of an element of one of the slices is stored. -/
theorem st_store_fit {t : TypeId} {bt : Nat} {z : Value} {x y : Operand} {rb k p i j base : Nat} {lits : List (Nat × Row)} {row : Row} {L : List β} {x0 : β} (x' : β) {l0 : List D} {v : D} (hi : Inf c.P t 1 bt z) (ho : o.op = .store t x y) (hd : o.dst = none) (hx : s.ev x = some (.ref (base + p) k)) (hy : s.ev y = some (.d v)) (hH : s.H = lits ++ F.objs base L) (hlow : lits.all (fun x => decide (x.1 < base)) = true)
  (hr : fnd lits rb = some row) (hc : row.cells = F.cells base L) (hp : L[p]? = some x0) (hk : k = i * F.sz + j) (hl : (F.it x0)[i]? = some l0) (hj : j < F.sz) (hrow : ∀ x, ∀ l ∈ F.it x, l.length = F.sz) (hone : (V.d v).one = true) (hpre : F.pre x' = F.pre x0) (hit : F.it x' = (F.it x0).set i (l0.set j v)) :
  Step c o s (fun s' => s' = ⟨s.n, s.T, (rb, { row with cells := F.cells base (L.set p x') }) :: lits ++ F.objs base (L.set p x'), s.K⟩) := by
 have hil : i < (F.it x0).length := (List.getElem?_eq_some_iff.1 hl).1
 have hne : (F.it x0).isEmpty = false := by
  cases h : F.it x0 with
  | nil => rw [h] at hl; simp at hl
  | cons => rfl
 have hpl : p < L.length := (List.getElem?_eq_some_iff.1 hp).1
 have hlen : (F.it x').length = (F.it x0).length := by rw [hit]; simp
 have hne' : (F.it x').isEmpty = false := by
  cases h : F.it x' with
  | nil => rw [h] at hlen; simp at hlen; omega
  | cons => rfl
 have hflat : (F.row x').cells = (F.row x0).cells.set k (.d v) := by
  simp only [Fam.row, hit, flat_setF (F.it x0) i j l0 v (hrow x0) hl hj, hk, List.map_set]
 have hk2 : k < (F.row x0).cells.length := by
  simp only [Fam.row, List.length_map, flat_lenF (F.it x0) (hrow x0), hk]
  have : i * F.sz + F.sz ≤ (F.it x0).length * F.sz := by rw [← Nat.succ_mul]; exact Nat.mul_le_mul_right _ hil
  omega
 have key := st_store (l := (F.row x').cells) hi ho hd hx hy (fit_fnd hH hlow hp) (row := F.row x0) hne hone hk2 (by rw [hflat])
 have hsame := Fam.cells_same (F := F) L base p x0 x' hp hpre hlen
 have hrb : rb < base := by have := List.all_eq_true.1 hlow _ (fnd_mem hr); simpa using this
 intro g a w hs K Q' hK
 refine key g a w hs K Q' fun g' s' a' w' hs' hsim => ?_
 subst hs'
 refine hK g' _ a' w' rfl (hsim.less ⟨rfl, fun i v h => ⟨v, h, .refl _⟩, fun r row' hr' => ?_, fun j v h => ⟨v, h, .refl _⟩⟩)
 have hr' : fnd ((rb, { row with cells := F.cells base (L.set p x') }) :: (lits ++ F.objs base (L.set p x'))) r = some row' := hr'
 show ∃ row2, fnd ((base + p, { F.row x0 with cells := (F.row x').cells }) :: s.H) r = some row2 ∧ _
 rw [fnd] at hr'
 by_cases e : rb = r
 ·subst e
  rw [if_pos (by simp)] at hr'
  have hr' := Option.some.inj hr'
  subst hr'
  refine ⟨row, ?_, rfl, rfl, rfl, fun j v hv => ⟨v, ?_, .refl _⟩⟩
  ·rw [fnd, if_neg (by simp; omega), hH, fnd_app, hr]
  ·rw [hc, ← hsame]; exact hv
 ·rw [if_neg (by simpa using e), fnd_app] at hr'
  cases hl2 : fnd lits r with
  | some row2 =>
   rw [hl2] at hr'
   have hr' := Option.some.inj hr'
   subst hr'
   have : r < base := by have := List.all_eq_true.1 hlow _ (fnd_mem hl2); simpa using this
   exact ⟨row2, by rw [fnd, if_neg (by simp; omega), hH, fnd_app, hl2], rfl, rfl, rfl, fun j v hv => ⟨v, hv, .refl _⟩⟩
  | none =>
   rw [hl2] at hr'
   obtain ⟨q, y, rfl, hy', rfl⟩ := Fam.objs_inv hr'
   by_cases eq : q = p
   ·subst eq
    rw [List.getElem?_set_self hpl] at hy'
    have hy' := Option.some.inj hy'
    subst hy'
    refine ⟨{ F.row x0 with cells := (F.row x').cells }, by rw [fnd, if_pos (by simp)], rfl, ?_, rfl, fun j v hv => ⟨v, hv, .refl _⟩⟩
    show (F.it x').isEmpty = (F.it x0).isEmpty
    rw [hne, hne']
   ·rw [List.getElem?_set_ne (Ne.symm eq)] at hy'
    refine ⟨F.row y, ?_, rfl, rfl, rfl, fun j v hv => ⟨v, hv, .refl _⟩⟩
    rw [fnd, if_neg (by simp; omega), hH, fnd_app, fnd_low hlow (by omega), Fam.objs_get, hy']; rfl
/-- All of it, as a callee sees it that only reads. -/
theorem fam_rep {g : Nat → Nat × Nat} {a : Act} {w : World} {lits : List (Nat × Row)} {L : List β} {base rb m szr btr : Nat} {row : Row} {f : Bool} (hs : Sim c g s a w) (hH : s.H = lits ++ F.objs base L) (hlow : lits.all (fun x => decide (x.1 < base)) = true) (hr : fnd lits rb = some row) (hf : row.nil = f) (hc : row.cells = F.cells base L)
  (hm : ∀ x, (F.pre x).length = m) (hsz : m + 1 = szr) (hbt : L.length * btr ≤ 140737488355328) (hrow : ∀ x, ∀ l ∈ F.it x, l.length = F.sz) (hit : ∀ x ∈ L, (F.it x).length * F.bt ≤ 140737488355328) {x : Value} (hx : VRep w (qt c s.H g) g (.own rb szr L.length f) x) : VRep w (fun b => ¬ c.out b) g (.d (.sl szr btr (L.map F.data))) x := by
 subst hsz
 have hrb : fnd s.H rb = some row := by rw [hH, fnd_app, hr]
 have hob : ∀ r row, fnd s.H r = some row → row.nil = false → ¬ c.out (g r).1 := fun r row hr hn h => by
  have h1 := hs.low _ h
  have h2 := hs.base r row hr hn
  omega
 refine .d _ _ ?_
 generalize hLn : L.length = n at hx
 cases hx with
 | own _ _ _ hle hcap =>
  obtain ⟨arr, h1, _, h2⟩ := hs.obj rb row hrb hf
  have hcell : ∀ (i j : Nat) (y : β) (u : D), L[i]? = some y → (F.data y)[j]? = some u → ∃ z, arr[i * (m + 1) + j]? = some z ∧ DRep w (fun b => ¬ c.out b) u z := by
   intro i j y u hi hj
   unfold Fam.data at hj
   by_cases hjm : j < m
   ·rw [List.getElem?_append_left (by rw [hm]; exact hjm)] at hj
    obtain ⟨z, h3, h4⟩ := h2 _ (.d u) (by rw [hc]; exact Fam.cells_pre hm L base i j y u hi hj)
    refine ⟨z, h3, ?_⟩
    cases h4 with
    | d _ _ h5 => exact h5.mono Cells.rfl (fun b hb _ => hb.1)
   ·rw [List.getElem?_append_right (by rw [hm]; omega), hm] at hj
    cases hjj : j - m with
    | succ q => rw [hjj] at hj; simp at hj
    | zero =>
     rw [hjj] at hj
     simp at hj
     subst hj
     obtain rfl : j = m := by omega
     obtain ⟨z, h3, h4⟩ := h2 _ _ (by rw [hc]; exact Fam.cells_own hm L base i y hi)
     refine ⟨z, h3, ?_⟩
     have := Ro.rep hs (Ro.own (base + i) F.sz (F.it y).length F.bt (F.it y).isEmpty (F.row y) (F.it y) (fit_fnd hH hlow hi) rfl rfl (hit y (List.mem_of_getElem? hi)) (fun i' j' l u h5 h6 => by
      simp only [Fam.row, List.getElem?_map, flat_getF (F.it y) i' j' l u (hrow y) h5 h6, Option.map_some])) h4
     cases this with
     | d _ _ h5 => exact h5
  have hkey : ∀ (i j : Nat) (row' : List D) (u : D), (L.map F.data)[i]? = some row' → row'[j]? = some u → ∃ z, arr[i * (m + 1) + j]? = some z ∧ DRep w (fun b => ¬ c.out b) u z := by
   intro i j row' u hi hj
   rw [List.getElem?_map] at hi
   cases hy : L[i]? with
   | none => rw [hy] at hi; cases hi
   | some y =>
    rw [hy] at hi
    simp only [Option.map_some, Option.some.injEq] at hi
    subst hi
    exact hcell i j y u hy hj
  have hln : (L.map F.data).length = n := by rw [List.length_map, hLn]
  rw [← hln]
  refine .sl (m + 1) btr (L.map F.data) _ _ (g rb).1 0 (fun i j => arr.getD (i * (m + 1) + j) undef) (fun _ => ⟨rfl, hob rb row hrb hf, (Array.getElem?_eq_some_iff.1 h1).1⟩) (by rw [hln, ← hLn]; exact hbt) ?_ ?_
  ·intro i j l u hi hj
   obtain ⟨z, h3, _⟩ := hkey i j l u hi hj
   rw [Nat.zero_add, cell_of_row w _ _ _ _ _ h1, h3]
   simp [Array.getD_eq_getD_getElem?, h3]
  ·intro i j l u hi hj
   obtain ⟨z, h3, h4⟩ := hkey i j l u hi hj
   simpa [Array.getD_eq_getD_getElem?, h3] using h4
 | ownNil =>
  have : L = [] := by simpa using hLn
  subst this
  exact .sl (m + 1) btr [] none 0 0 0 (fun _ _ => undef) (fun h => absurd rfl h) (by simp) (by simp) (by simp)
/-- A call that reads the caller's own and answers with a slice of its own, of plain values. -/
theorem sm_callF {fx : Operand} {xs : Array Operand} {ts : Array TypeId} {f : FuncId} {fn : Func} {code : Code} {n R len : Nat} {rs : List ResultVar} {args l : List V} {ty : TypeId} {e : Int} (hfn : FnO c.P f args (fun v H => v = .tup [.own R 1 len false, .i e] ∧ H = [(R, ⟨ty, l, false, 1⟩)])) (hpl : ∀ v ∈ l, ∃ y, v = .d (.p y)) (hf : Is c.P f fn code n rs) (ho : o.op = .call { callee := .value fx, args := xs, argTypes := ts })
  (hfx : s.ev fx = some (.fn f [])) (hro : ∀ g a w, Sim c g s a w → VReps w (fun b => ¬ c.out b) g args (xs.toList.map a.eval)) (hd : dok s o = true) (hcl : s.clean R = true) : StepM c o s (fun s' => s' = S.put ⟨s.n, s.T, (R, ⟨ty, l, false, 1⟩) :: s.H, s.K⟩ o.dst (.tup [.own R 1 len false, .i e])) := by
 intro g a w hs K Q hK
 have hfx' : a.eval fx = .func (.func f) #[] ([] : List Value).toArray := by
  have h := hs.ev hfx
  generalize a.eval fx = u at h
  cases h with
  | fn _ _ cs hl _ =>
   obtain rfl : cs = [] := by cases cs with | nil => rfl | cons => simp at hl
   rfl
 unfold Oper.wp
 rw [exec_call (caps := []) hf ho hfx']
 simp only [Oper.upon, List.append_nil]
 refine (hfn w c.out g _ (fun b h => Nat.lt_of_lt_of_le (hs.low b h) hs.below.size) (hro g a w hs)).mono ?_
 rintro e' w' ⟨v, x, g', H, rfl, ⟨rfl, rfl⟩, _, hO, h3, h4⟩
 obtain ⟨arr, o1, o2, o3⟩ := hO.obj R ⟨ty, l, false, 1⟩ (by simp [fnd]) rfl
 have hnew : w.heap.size ≤ (g' R).1 := hO.new R ⟨ty, l, false, 1⟩ (by simp [fnd]) rfl
 have hw : Cells w w' (qt c s.H g) := ⟨h4.size, fun b o u _ h1 h2 => (h4.cell (p := ⟨b, o, none⟩) h1).trans h2, Below.maps h4⟩
 have hltb : ∀ {b o}, w.heap[b]? = some o → b < w.heap.size := fun h => (Array.getElem?_eq_some_iff.1 h).1
 have hfo : ∀ k row', fnd ((R, (⟨ty, l, false, 1⟩ : Row)) :: s.H) k = some row' → k = R ∧ row' = ⟨ty, l, false, 1⟩ ∨ k ≠ R ∧ fnd s.H k = some row' := by
  intro k row' hk
  rw [fnd] at hk
  by_cases e : R = k
  ·subst e
   rw [if_pos (by simp)] at hk
   exact .inl ⟨rfl, (Option.some.inj hk).symm⟩
  ·rw [if_neg (by simpa using e)] at hk
   exact .inr ⟨Ne.symm e, hk⟩
 have hq : ∀ b, qt c s.H g b → b < w.heap.size → qt c ((R, (⟨ty, l, false, 1⟩ : Row)) :: s.H) (fun k => if k = R then g' R else g k) b := by
  intro b hb hlt
  refine ⟨hb.1, fun k row' hk hn => ?_⟩
  rcases hfo k row' hk with ⟨rfl, _⟩ | ⟨e, h1⟩
  ·simp only [if_true]; omega
  ·simp only [if_neg e]; exact hb.2 k row' h1 hn
 have hm : ∀ v x, v.has R = false → VRep w (qt c s.H g) g v x → VRep w' (qt c ((R, (⟨ty, l, false, 1⟩ : Row)) :: s.H) (fun k => if k = R then g' R else g k)) (fun k => if k = R then g' R else g k) v x := by
  intro v x hv hx
  refine hx.mono hw hq fun k hk => ?_
  have e : k ≠ R := by rintro rfl; rw [hv] at hk; cases hk
  simp [e]
 refine hK (fun k => if k = R then g' R else g k) _ _ _ rfl (Sim.put (s := ⟨s.n, s.T, (R, ⟨ty, l, false, 1⟩) :: s.H, s.K⟩) ⟨hs.size, hs.defers, ?_, ?_, ?_, ?_, ?_, ?_, hs.low, hs.below.trans (h4.mono hs.below.size)⟩ o.dst (dok_spec hd) ?_) h4
 ·intro i v hv
  obtain ⟨y, h1, h2⟩ := hs.tmp i v hv
  exact ⟨y, h1, hm v y (S.clean_tmp hcl hv) h2⟩
 ·intro k row' hk hn
  rcases hfo k row' hk with ⟨_, rfl⟩ | ⟨_, h1⟩
  ·cases hn
  ·exact hs.nul k row' h1 hn
 ·intro k row' hk hn
  rcases hfo k row' hk with ⟨rfl, rfl⟩ | ⟨e, h1⟩
  ·refine ⟨arr, by simpa using o1, by simpa using o2, fun j v hv => ?_⟩
   obtain ⟨y, h5, h6⟩ := o3 j v hv
   obtain ⟨z, rfl⟩ := hpl v (List.mem_of_getElem? hv)
   rw [VRep.p_eq h6] at h5
   exact ⟨z, h5, .d _ _ (.p _)⟩
  ·obtain ⟨arr', h5, h6, h7⟩ := hs.obj k row' h1 hn
   refine ⟨arr', by simp only [if_neg e]; exact (h4.block _ (hltb h5)).trans h5, by simpa only [if_neg e] using h6, fun j v hv => ?_⟩
   obtain ⟨y, h8, h9⟩ := h7 j v hv
   exact ⟨y, h8, hm v y (V.hasL_false.1 (by
    have := (S.clean_obj hcl h1).2
    rw [V.hasL_false]; exact this) v (List.mem_of_getElem? hv)) h9⟩
 ·intro j v y h1 h2
  exact hm v y (S.clean_keep hcl h1) (hs.keep j v y h1 h2)
 ·intro k k' row1 row2 h1 n1 h2 n2 h5
  rcases hfo k row1 h1 with ⟨e1, _⟩ | ⟨e1, m1⟩ <;> rcases hfo k' row2 h2 with ⟨e2, _⟩ | ⟨e2, m2⟩
  ·rw [e1, e2]
  ·simp only [if_pos e1, if_neg e2] at h5
   obtain ⟨arr', h6, _⟩ := hs.obj k' row2 m2 n2
   have := hltb h6
   omega
  ·simp only [if_pos e2, if_neg e1] at h5
   obtain ⟨arr', h6, _⟩ := hs.obj k row1 m1 n1
   have := hltb h6
   omega
  ·simp only [if_neg e1, if_neg e2] at h5
   exact hs.inj k k' _ _ m1 n1 m2 n2 h5
 ·intro k row' h1 n1
  rcases hfo k row' h1 with ⟨rfl, _⟩ | ⟨e1, h1⟩
  ·simp only [if_true]; exact Nat.le_trans hs.below.size hnew
  ·simp only [if_neg e1]; exact hs.base k row' h1 n1
 ·cases h3 with
  | tup _ cs hl hh =>
   refine .tup _ cs hl fun j u z hu hz => ?_
   match j, hu with
   | 0, hu =>
    simp only [List.getElem?_cons_zero, Option.some.injEq] at hu
    subst hu
    have h5 := hh 0 (.own R 1 len false) z rfl hz
    have hG : (if R = R then g' R else g R) = g' R := by simp
    cases h5 with
    | own _ _ _ h6 h7 =>
     have := VRep.own (w := w') (q := qt c ((R, (⟨ty, l, false, 1⟩ : Row)) :: s.H) (fun k => if k = R then g' R else g k)) (g := fun k => if k = R then g' R else g k) R 1 len (by simpa using h6) (by simpa using h7)
     simpa using this
   | 1, hu =>
    simp only [List.getElem?_cons_succ, List.getElem?_cons_zero, Option.some.injEq] at hu
    subst hu
    rw [VRep.p_eq (hh 1 (.i e) z rfl hz)]
    exact .d _ _ (.p _)
   | j + 2, hu => simp at hu
theorem fam_hasL {k : Nat} : ∀ (L : List β) (base : Nat), V.hasL k (F.cells base L) = true → ∃ p, p < L.length ∧ k = base + p
 | [], base, h => by simp [Fam.cells, V.hasL] at h
 | x :: L, base, h => by
  simp only [Fam.cells, hasL_append, hasL_dmap, Bool.false_or, V.hasL, Fam.ownV, V.has, Bool.or_eq_true, beq_iff_eq] at h
  rcases h with h | h
  ·exact ⟨0, by simp, by omega⟩
  ·obtain ⟨p, h1, h2⟩ := fam_hasL L (base + 1) h
   exact ⟨p + 1, by simp; omega, by omega⟩
theorem fam_closed {L : List β} {base rb : Nat} {row : Row} (hc : row.cells = F.cells base L) : ∀ r row' k, fnd ((rb, row) :: F.objs base L) r = some row' → V.hasL k row'.cells = true → ∃ row'', (k, row'') ∈ (rb, row) :: F.objs base L := by
 intro r row' k hr hk
 rw [fnd] at hr
 split at hr
 ·cases hr
  rw [hc] at hk
  obtain ⟨p, h1, rfl⟩ := fam_hasL L base hk
  have := Fam.objs_get (F := F) L base p
  rw [List.getElem?_eq_getElem h1] at this
  exact ⟨_, List.mem_cons_of_mem _ (fnd_mem this)⟩
 ·obtain ⟨p, x, rfl, _, rfl⟩ := Fam.objs_inv hr
  rw [Fam.row_hasL] at hk; cases hk
theorem objs_ge : ∀ (L : List β) (base : Nat) (x : Nat × Row), x ∈ F.objs base L → base ≤ x.1
 | [], base, x, h => by simp [Fam.objs] at h
 | y :: L, base, x, h => by
  simp only [Fam.objs, List.mem_cons] at h
  rcases h with rfl | h
  ·exact Nat.le_refl _
  ·have := objs_ge L (base + 1) x h
   omega
/-- A state that speaks of low names only. -/
theorem clean_hi {b : Nat} (hT : s.T.all (fun x => x.2.low b) = true) (hH : s.H.all (fun x => decide (x.1 < b) && V.lowL b x.2.cells) = true) (hK : V.lowL b s.K = true) {r : Nat} (hr : b ≤ r) : s.clean r = true := by
 simp only [S.clean, Bool.and_eq_true, List.all_eq_true, Bool.not_eq_true']
 refine ⟨⟨fun x hx => V.low_has hr _ (List.all_eq_true.1 hT x hx), fun x hx => ?_⟩, V.lowL_has hr _ hK⟩
 have := List.all_eq_true.1 hH x hx
 simp only [Bool.and_eq_true, decide_eq_true_eq] at this
 exact ⟨by simp; omega, V.lowL_has hr _ this.2⟩
theorem clean_fam {b base rb : Nat} {row : Row} {L : List β} (hT : s.T.all (fun x => x.2.low b) = true) (hH : s.H.all (fun x => decide (x.1 < b) && V.lowL b x.2.cells) = true) (hK : V.lowL b s.K = true) (h1 : b ≤ rb) (h2 : b ≤ base) : ((rb, row) :: F.objs base L).all (fun x => s.clean x.1) = true := by
 rw [List.all_eq_true]
 intro x hx
 rcases List.mem_cons.1 hx with rfl | hx
 ·exact clean_hi hT hH hK h1
 ·exact clean_hi hT hH hK (Nat.le_trans h2 (objs_ge L base x hx))
/-- The new objects of a call come to stand ahead of the slices. -/
theorem Less.rot {F : Fam β} {n base : Nat} {T : List (Nat × V)} {x : Nat × Row} {H : List (Nat × Row)} {L : List β} {K : List V} (hlow : H.all (fun x => decide (x.1 < base)) = true) : Less ⟨n, T, x :: (H ++ F.objs base L), K⟩ ⟨n, T, x :: (F.objs base L ++ H), K⟩ := by
 refine ⟨rfl, fun i v h => ⟨v, h, .refl _⟩, fun r row h => ?_, fun j v h => ⟨v, h, .refl _⟩⟩
 refine ⟨row, ?_, rfl, rfl, rfl, fun j v hv => ⟨v, hv, .refl _⟩⟩
 have h : fnd (x :: (H ++ F.objs base L)) r = some row := h
 show fnd (x :: (F.objs base L ++ H)) r = some row
 rw [fnd] at h ⊢
 split at h
 ·rename_i e; rw [if_pos e]; exact h
 ·rename_i e
  rw [if_neg e]
  rw [fnd_app] at h ⊢
  cases hl : fnd H r with
  | some row2 =>
   rw [hl] at h
   have hlt : r < base := by have := List.all_eq_true.1 hlow _ (fnd_mem hl); simpa using this
   cases ho : fnd (F.objs base L) r with
   | some row3 => obtain ⟨p, y, rfl, _, _⟩ := Fam.objs_inv ho; omega
   | none => exact h
  | none =>
   rw [hl] at h
   have h : fnd (F.objs base L) r = some row := h
   rw [h]
theorem AW.famFreezeN {code : Code} {Q : Exit → S → Prop} (lits : List (Nat × Row)) (rb : Nat) {m base : Nat} {L : List β} {row : Row} (hH : s.H = lits ++ F.objs base L) (hr : fnd lits rb = some row) (hn : row.nil = decide (L.length = 0)) (hc : row.cells = F.cells base L) (hm : ∀ x, (F.pre x).length = m) (hrow : ∀ x, ∀ l ∈ F.it x, l.length = F.sz) (hbt : ∀ x ∈ L, (F.it x).length * F.bt ≤ 140737488355328) (hlow : lits.all (fun x => decide (x.1 < base)) = true)
  (hlo : ∀ x ∈ lits, x.1 ≠ rb → ∀ r, base ≤ r → V.hasL r x.2.cells = false) (hT : s.T.all (fun x => x.2.low base) = true) (hK : V.lowL base s.K = true)
  (h : AW c code Q ⟨s.n, s.T, (rb, { row with cells := L.flatMap fun x => (F.data x).map V.d }) :: lits, s.K⟩) : AW c code Q s := by
 by_cases h0 : L = []
 ·subst h0
  refine AW.less (s' := ⟨s.n, s.T, (rb, { row with cells := [] }) :: lits, s.K⟩) ⟨rfl, fun i v h => ⟨v, h, .refl _⟩, fun r row' h => ?_, fun j v h => ⟨v, h, .refl _⟩⟩ h
  have h : fnd ((rb, { row with cells := ([] : List V) }) :: lits) r = some row' := h
  refine ⟨row', ?_, rfl, rfl, rfl, fun j v hv => ⟨v, hv, .refl _⟩⟩
  have e0 : row = { row with cells := ([] : List V) } := by
   cases row
   simp only at hc
   rw [hc]; rfl
  rw [hH, fnd_app]
  rw [fnd] at h
  by_cases e : rb = r
  ·rw [if_pos (by simpa using e)] at h
   have h := Option.some.inj h
   rw [← e, hr, ← h]
   exact congrArg some e0
  ·rw [if_neg (by simpa using e)] at h
   rw [h]
 ·exact AW.famFreeze lits rb hH hr (by rw [hn]; simp [h0]) hc hm hrow hbt hlow hlo hT hK h
end

def FS : Fam St := ⟨56, 4, 32, fun s => [.p (.int .i64 s.fin)], fun s => s.arcs.map arD⟩
theorem fs_cells_len (P : List St) : (FS.cells 1000 P).length = P.length * 2 := Fam.cells_len (fun _ => rfl) P 1000
theorem fs_row (f : Int) (R : List Ar) : FS.row ⟨f, R⟩ = ⟨56, R.flatMap arV2, decide (R.length = 0), 4⟩ := by
 have h1 : (R.map arD).flatten.map V.d = R.flatMap arV2 := by induction R with | nil => rfl | cons x l ih => simp only [List.map_cons, List.flatten_cons, List.map_append, ih, List.flatMap_cons]
 have h2 : (R.map arD).isEmpty = decide (R.length = 0) := by cases R <;> rfl
 simp only [Fam.row, FS, h1, h2]
set_option maxHeartbeats 2000000 in
theorem am_TrimF (m : Mach) (h0 : machE m = 0) : FnO Try.prog 55 [mV m] (fun v H => v = .tup [.agg [.i (trimM m).start, .own 901 2 (trimM m).states.length (decide ((trimM m).states.length = 0))], .i 0] ∧ H = (901, ⟨52, FS.cells 1000 (trimM m).states, decide ((trimM m).states.length = 0), 2⟩) :: FS.objs 1000 (trimM m).states) := by
 refine FnO.mach m 0 rfl fun hb hal => ?_
 obtain ⟨hz1, hz2, hz3, hz⟩ := machE_zero h0
 have hT : trimM m = ⟨pl (tKept m) m.start, (tKept m).map fun q => tState (tKept m) (m.states.getD q ⟨0, []⟩)⟩ := by unfold trimM; rw [if_pos h0]
 have hAl := aheadL_len h0
 have hBl := backL_len h0
 obtain ⟨A, hA⟩ : ∃ A, aheadL m = A := ⟨_, rfl⟩
 obtain ⟨B, hB⟩ : ∃ B, backL m = B := ⟨_, rfl⟩
 have hK : ∀ q a b, A[q]? = some a → B[q]? = some b → tKeep m q = (a && b) := fun q a b ha hb => tKeep_of (by rw [hA]; exact ha) (by rw [hB]; exact hb)
 have hkept : tKept m = (List.range m.states.length).filter (tKeep m) := rfl
 obtain ⟨K, hKd⟩ : ∃ K, tKeep m = K := ⟨_, rfl⟩
 obtain ⟨kept, hkd⟩ : ∃ kept, tKept m = kept := ⟨_, rfl⟩
 obtain ⟨T, hTd⟩ : ∃ T, trimM m = T := ⟨_, rfl⟩
 rw [hKd] at hK hkept
 rw [hkd] at hkept hT
 rw [hTd] at hT ⊢
 obtain ⟨st, sts⟩ := m
 simp only at hz1 hz2 hz3 hz hb hal hAl hBl hkept hT
 rw [hA] at hAl
 rw [hB] at hBl
 obtain ⟨n, hn⟩ : ∃ n, sts.length = n := ⟨_, rfl⟩
 rw [hn] at hz1 hz3 hz hb hAl hBl hkept
 refine FnO.intro (n := 118) ⟨Try.func55, rfl, rfl, rfl, rfl⟩ (by simp [V.pure, V.has, V.hasL]) (by simp) fun w0 out => ?_
 refine AW.seq ?_
 refine AW.region ?_
 refine AL.sm rfl (sm_box 1 rfl rfl rfl rfl rfl) ?_
 refine AL.sm rfl (sm_alloc (l := [.d (.p (.int .i64 0)), .d (.p (.slice none 0 0))]) 2 inf24 rfl rfl rfl rfl) ?_
 refine AL.rp rfl rfl (rp_assign rfl rfl) ?_
 refine AL.nil ?_
 try simp only [thenS, S.put, S.newObj, setL, V.cs, List.length_cons, List.length_nil, List.take_succ_cons, List.take_zero, List.drop_succ_cons, List.drop_zero, List.drop_nil, List.nil_append, List.cons_append, List.append_nil, Nat.zero_add, Nat.reduceAdd, List.map_cons, List.map_nil, List.set_cons_zero, List.set_cons_succ, enum]
 refine AW.seq ?_
 refine AW.region ?_
 refine AL.rd rfl rfl (rd_loads_ref Try.underlying24 rfl inf24 rfl rfl rfl rfl rfl rfl) ?_
 refine AL.call (post := ?pc0) rfl (sm_call (args := [_]) ?hc0 ⟨Try.func87, rfl, rfl, rfl, rfl⟩ rfl rfl rfl rfl) ?_
 case hc0 => exact Fn.eqv (am_Ahead ⟨st, sts⟩) (by rw [hA, h0])
 rintro _ rfl -
 try dsimp only
 refine AL.rp rfl rfl (rp_move rfl rfl) ?_
 refine AL.rp rfl rfl (rp_extract rfl rfl rfl) ?_
 refine AL.rp rfl rfl (rp_extract rfl rfl rfl) ?_
 refine AL.rp rfl rfl (rp_assign rfl rfl) ?_
 refine AL.rp rfl rfl (rp_assign rfl rfl) ?_
 refine AL.nil ?_
 try simp only [thenS, S.put, S.newObj, setL, V.cs, List.length_cons, List.length_nil, List.take_succ_cons, List.take_zero, List.drop_succ_cons, List.drop_zero, List.drop_nil, List.nil_append, List.cons_append, List.append_nil, Nat.zero_add, Nat.reduceAdd, List.map_cons, List.map_nil, List.set_cons_zero, List.set_cons_succ]
 refine AW.seq ?_
 refine AW.seq ?_
 refine AW.region ?_
 refine AL.rp rfl rfl (rp_move rfl rfl) ?_
 (refine AL.rp rfl rfl (rp_neqF rfl rfl rfl (by first | assumption | omega | (dsimp only; omega))) ?_)
 refine AL.nil ?_
 try simp only [thenS, S.put, List.nil_append, List.cons_append]
 refine AW.condF rfl ?_
 refine AW.skip ?_
 try simp only [thenS, List.nil_append, List.cons_append]
 refine AW.seq ?_
 refine AW.region ?_
 refine AL.rd rfl rfl (rd_loads_ref Try.underlying24 rfl inf24 rfl rfl rfl rfl rfl rfl) ?_
 refine AL.call (post := ?pc1) rfl (sm_call (args := [_]) ?hc1 ⟨Try.func88, rfl, rfl, rfl, rfl⟩ rfl rfl rfl rfl) ?_
 case hc1 => exact Fn.eqv (am_Back ⟨st, sts⟩) (by rw [hB, h0])
 rintro _ rfl -
 try dsimp only
 refine AL.rp rfl rfl (rp_move rfl rfl) ?_
 refine AL.rp rfl rfl (rp_extract rfl rfl rfl) ?_
 refine AL.rp rfl rfl (rp_extract rfl rfl rfl) ?_
 refine AL.rp rfl rfl (rp_assign rfl rfl) ?_
 refine AL.rp rfl rfl (rp_assign rfl rfl) ?_
 refine AL.nil ?_
 try simp only [thenS, S.put, S.newObj, setL, V.cs, List.length_cons, List.length_nil, List.take_succ_cons, List.take_zero, List.drop_succ_cons, List.drop_zero, List.drop_nil, List.nil_append, List.cons_append, List.append_nil, Nat.zero_add, Nat.reduceAdd, List.map_cons, List.map_nil, List.set_cons_zero, List.set_cons_succ]
 refine AW.seq ?_
 refine AW.region ?_
 refine AL.rp rfl rfl (rp_field_ref Try.underlying24 rfl rfl rfl inf22 (by decide) rfl) ?_
 refine AL.rd rfl rfl (rd_load_ref Try.underlying22 rfl rfl rfl rfl rfl rfl) ?_
 refine AL.rp rfl rfl (rp_len_map Try.underlying22 rfl rfl (by assumption)) ?_
 refine AL.sm rfl (sm_make_map 34 V.i (0) Try.underlying40 inf3 rfl rfl rfl rfl rfl (by omega) (by decide) rfl rfl) ?_
 refine AL.rp rfl rfl (rp_assign rfl rfl) ?_
 refine AL.nil ?_
 try simp only [thenS, S.put, S.newObj, setL, V.cs, List.length_cons, List.length_nil, List.take_succ_cons, List.take_zero, List.drop_succ_cons, List.drop_zero, List.drop_nil, List.nil_append, List.cons_append, List.append_nil, Nat.zero_add, Nat.reduceAdd, List.map_cons, List.map_nil, List.set_cons_zero, List.set_cons_succ]
 refine AW.seq ?_
 refine AW.region ?_
 refine AL.rp rfl rfl (rp_assign rfl rfl) ?_
 refine AL.nil ?_
 try simp only [thenS, S.put, List.nil_append, List.cons_append]
 refine AW.seq ?_
 refine AW.seq ?_
 refine AW.region ?_
 refine AL.rp rfl rfl (rp_field_ref Try.underlying24 rfl rfl rfl inf22 (by decide) rfl) ?_
 refine AL.rd rfl rfl (rd_load_ref Try.underlying22 rfl rfl rfl rfl rfl rfl) ?_
 refine AL.rp rfl rfl (rp_len_map Try.underlying22 rfl rfl (by assumption)) ?_
 refine AL.rp rfl rfl (rp_move rfl rfl) ?_
 refine AL.nil ?_
 try simp only [thenS, S.put, List.nil_append, List.cons_append]
 refine AW.block ?_
 have hpl : ∀ q, q < n → pl kept (q : Int) = if K q then (((List.range q).filter K).length : Int) else -1 := fun q hq => by rw [hkept]; exact pl_filter hq
 refine AW.loop (fun s' => ∃ (k : Nat) (N : List Int), k ≤ n ∧ N.length = n ∧ (∀ q, q < k → N[q]? = some (pl kept q)) ∧ s' = ⟨118, [(1, .ref 1 0), (2, .ref 2 0), (4, .d (boolsD A)), (6, .d (boolsD B)), (8, .own 34 1 n false), (9, .i ((List.range k).filter K).length), (37, .i n), (38, .i k)], [(1, ⟨24, [.i st, .d (stsD sts)], false, 0⟩), (2, ⟨24, [.i 0, .nil], false, 0⟩), (34, ⟨3, N.map V.i, false, 1⟩)], []⟩) (fun s' => n - s'.nat 38) ⟨_, ?_, 0, List.replicate n 0, by omega, by simp, (fun q h => absurd h (by omega)), rfl⟩ ?_
 ·exact (Less.of rfl (by repeat (first | exact trivial | refine ⟨⟨_, rfl, Wk.refl _⟩, ?_⟩ | refine ⟨⟨_, rfl, Wk.nil _ _⟩, ?_⟩ | refine ⟨⟨_, rfl, Wk.junk _⟩, ?_⟩)) (by repeat (first | exact trivial | refine ⟨rfl, ?_⟩ | exact LH.fam | refine LH.skip (by decide) ?_)) rfl)
 rintro s' ⟨k, N, hk, hN, hNq, rfl⟩
 have hlk := filter_range_len K k
 by_cases hlt : k < n
 ·obtain ⟨a, ha⟩ := get_lt hAl hlt
  obtain ⟨b, hb'⟩ := get_lt hBl hlt
  have hKk := hK k a b ha hb'
  have hplk := hpl k hlt
  have hsk := filter_range_succ K k
  have hkN : k < N.length := by omega
  have hkN2 : k < (N.set k (-1)).length := by simpa using hkN
  have hstep : ∀ v : Int, v = pl kept k → ∀ q, q < k + 1 → (N.set k v)[q]? = some (pl kept q) := by
   intro v hv q hq
   rw [List.getElem?_set]
   by_cases e : k = q
   ·subst e; simp [hkN, hv]
   ·rw [if_neg e]; exact hNq q (by omega)
  have hstep2 : ∀ v : Int, v = pl kept k → ∀ q, q < k + 1 → ((N.set k (-1)).set k v)[q]? = some (pl kept q) := by
   intro v hv q hq
   rw [List.set_set]
   exact hstep v hv q hq
  cases a with
  | true =>
   cases b with
   | true =>
    simp only [hKk, Bool.and_self, if_true] at hsk hplk
    refine AW.seq ?_
    refine AW.region ?_
    (refine AL.rp rfl rfl (rp_lssT rfl rfl rfl (by first | assumption | omega | (dsimp only; omega))) ?_)
    refine AL.nil ?_
    try simp only [thenS, S.put, List.nil_append, List.cons_append]
    refine AW.seq ?_
    refine AW.condT rfl ?_
    refine AW.skip ?_
    try simp only [thenS, List.nil_append, List.cons_append]
    refine AW.seq ?_
    refine AW.block ?_
    refine AW.seq ?_
    refine AW.region ?_
    refine AL.rp rfl rfl (rp_move rfl rfl) ?_
    refine AL.rp rfl rfl (rp_assign rfl rfl) ?_
    refine AL.nil ?_
    try simp only [thenS, S.put, List.nil_append, List.cons_append]
    refine AW.seq ?_
    refine AW.region ?_
    refine AL.rp rfl rfl (rp_move rfl rfl) ?_
    refine AL.rp rfl rfl (rp_move rfl rfl) ?_
    refine AL.rp rfl rfl (rp_index_own Try.underlying40 inf3 rfl rfl rfl rfl (by first | assumption | omega)) ?_
    refine AL.st rfl (st_store_map2 inf3 rfl rfl rfl rfl rfl rfl rfl rfl (by first | assumption | omega)) ?_
    refine AL.nil ?_
    try simp only [thenS, S.put, S.newObj, setL, V.cs, List.length_cons, List.length_nil, List.take_succ_cons, List.take_zero, List.drop_succ_cons, List.drop_zero, List.drop_nil, List.nil_append, List.cons_append, List.append_nil, Nat.zero_add, Nat.reduceAdd, List.map_cons, List.map_nil, List.set_cons_zero, List.set_cons_succ]
    refine AW.seq ?_
    refine AW.region ?_
    refine AL.rp rfl rfl (rp_move rfl rfl) ?_
    refine AL.rp rfl rfl (rp_move rfl rfl) ?_
    refine AL.rp rfl rfl (rp_index_map Try.underlying107 inf4 rfl rfl rfl rfl (by assumption)) ?_
    refine AL.rd rfl rfl (rd_load_ad Try.underlying4 rfl rfl rfl rfl) ?_
    refine AL.rp rfl rfl (rp_move rfl rfl) ?_
    refine AL.rpy rfl rfl rfl (rp_move rfl rfl) ?_
    refine AL.rpy rfl rfl rfl (rp_move rfl rfl) ?_
    refine AL.rpy rfl rfl rfl (rp_index_map Try.underlying107 inf4 rfl rfl rfl rfl (by assumption)) ?_
    refine AL.rdy rfl rfl rfl (rd_load_ad Try.underlying4 rfl rfl rfl rfl) ?_
    refine AL.rp rfl rfl (rp_pick rfl rfl rfl) ?_
    refine AL.nil ?_
    try simp only [thenS, S.put, List.nil_append, List.cons_append]
    refine AW.condT rfl ?_
    refine AW.seq ?_
    refine AW.region ?_
    refine AL.rp rfl rfl (rp_move rfl rfl) ?_
    refine AL.rp rfl rfl (rp_move rfl rfl) ?_
    refine AL.rp rfl rfl (rp_move rfl rfl) ?_
    refine AL.rp rfl rfl (rp_index_own Try.underlying40 inf3 rfl rfl rfl rfl (by first | assumption | omega)) ?_
    refine AL.st rfl (st_store_map2 inf3 rfl rfl rfl rfl rfl rfl rfl rfl (by first | assumption | omega)) ?_
    refine AL.nil ?_
    try simp only [thenS, S.put, S.newObj, setL, V.cs, List.length_cons, List.length_nil, List.take_succ_cons, List.take_zero, List.drop_succ_cons, List.drop_zero, List.drop_nil, List.nil_append, List.cons_append, List.append_nil, Nat.zero_add, Nat.reduceAdd, List.map_cons, List.map_nil, List.set_cons_zero, List.set_cons_succ]
    refine AW.region ?_
    refine AL.rp rfl rfl (rp_move rfl rfl) ?_
    refine AL.rp rfl rfl (rp_add rfl rfl rfl (by first | omega | (dsimp only; omega))) ?_
    refine AL.rp rfl rfl (rp_assign rfl rfl) ?_
    refine AL.nil ?_
    try simp only [thenS, S.put, List.nil_append, List.cons_append]
    refine AW.region ?_
    refine AL.rp rfl rfl (rp_add rfl rfl rfl (by first | omega | (dsimp only; omega))) ?_
    refine AL.rp rfl rfl (rp_move rfl rfl) ?_
    refine AL.nil ?_
    try simp only [thenS, S.put, List.nil_append, List.cons_append]
    refine ⟨_, ?_, ⟨k + 1, _, by omega, by simpa using hN, hstep2 _ hplk.symm, rfl⟩, ?_⟩
    ·rw [hsk]
     simp only [List.length_append, List.length_cons, List.length_nil, Nat.zero_add]
     exact (Less.of rfl (by repeat (first | exact trivial | refine ⟨⟨_, rfl, Wk.refl _⟩, ?_⟩ | refine ⟨⟨_, rfl, Wk.nil _ _⟩, ?_⟩ | refine ⟨⟨_, rfl, Wk.junk _⟩, ?_⟩)) (by repeat (first | exact trivial | refine ⟨rfl, ?_⟩ | exact LH.fam | refine LH.skip (by decide) ?_)) rfl)
    ·simp [S.nat, fnd]; omega
   | false =>
    simp only [hKk, Bool.and_false, Bool.false_eq_true, if_false, List.append_nil] at hsk hplk
    refine AW.seq ?_
    refine AW.region ?_
    (refine AL.rp rfl rfl (rp_lssT rfl rfl rfl (by first | assumption | omega | (dsimp only; omega))) ?_)
    refine AL.nil ?_
    try simp only [thenS, S.put, List.nil_append, List.cons_append]
    refine AW.seq ?_
    refine AW.condT rfl ?_
    refine AW.skip ?_
    try simp only [thenS, List.nil_append, List.cons_append]
    refine AW.seq ?_
    refine AW.block ?_
    refine AW.seq ?_
    refine AW.region ?_
    refine AL.rp rfl rfl (rp_move rfl rfl) ?_
    refine AL.rp rfl rfl (rp_assign rfl rfl) ?_
    refine AL.nil ?_
    try simp only [thenS, S.put, List.nil_append, List.cons_append]
    refine AW.seq ?_
    refine AW.region ?_
    refine AL.rp rfl rfl (rp_move rfl rfl) ?_
    refine AL.rp rfl rfl (rp_move rfl rfl) ?_
    refine AL.rp rfl rfl (rp_index_own Try.underlying40 inf3 rfl rfl rfl rfl (by first | assumption | omega)) ?_
    refine AL.st rfl (st_store_map2 inf3 rfl rfl rfl rfl rfl rfl rfl rfl (by first | assumption | omega)) ?_
    refine AL.nil ?_
    try simp only [thenS, S.put, S.newObj, setL, V.cs, List.length_cons, List.length_nil, List.take_succ_cons, List.take_zero, List.drop_succ_cons, List.drop_zero, List.drop_nil, List.nil_append, List.cons_append, List.append_nil, Nat.zero_add, Nat.reduceAdd, List.map_cons, List.map_nil, List.set_cons_zero, List.set_cons_succ]
    refine AW.seq ?_
    refine AW.region ?_
    refine AL.rp rfl rfl (rp_move rfl rfl) ?_
    refine AL.rp rfl rfl (rp_move rfl rfl) ?_
    refine AL.rp rfl rfl (rp_index_map Try.underlying107 inf4 rfl rfl rfl rfl (by assumption)) ?_
    refine AL.rd rfl rfl (rd_load_ad Try.underlying4 rfl rfl rfl rfl) ?_
    refine AL.rp rfl rfl (rp_move rfl rfl) ?_
    refine AL.rpy rfl rfl rfl (rp_move rfl rfl) ?_
    refine AL.rpy rfl rfl rfl (rp_move rfl rfl) ?_
    refine AL.rpy rfl rfl rfl (rp_index_map Try.underlying107 inf4 rfl rfl rfl rfl (by assumption)) ?_
    refine AL.rdy rfl rfl rfl (rd_load_ad Try.underlying4 rfl rfl rfl rfl) ?_
    refine AL.rp rfl rfl (rp_pick rfl rfl rfl) ?_
    refine AL.nil ?_
    try simp only [thenS, S.put, List.nil_append, List.cons_append]
    refine AW.condF rfl ?_
    refine AW.skip ?_
    try simp only [thenS, List.nil_append, List.cons_append]
    refine AW.region ?_
    refine AL.rp rfl rfl (rp_add rfl rfl rfl (by first | omega | (dsimp only; omega))) ?_
    refine AL.rp rfl rfl (rp_move rfl rfl) ?_
    refine AL.nil ?_
    try simp only [thenS, S.put, List.nil_append, List.cons_append]
    refine ⟨_, ?_, ⟨k + 1, _, by omega, by simpa using hN, hstep _ hplk.symm, rfl⟩, ?_⟩
    ·rw [hsk]
     exact (Less.of rfl (by repeat (first | exact trivial | refine ⟨⟨_, rfl, Wk.refl _⟩, ?_⟩ | refine ⟨⟨_, rfl, Wk.nil _ _⟩, ?_⟩ | refine ⟨⟨_, rfl, Wk.junk _⟩, ?_⟩)) (by repeat (first | exact trivial | refine ⟨rfl, ?_⟩ | exact LH.fam | refine LH.skip (by decide) ?_)) rfl)
    ·simp [S.nat, fnd]; omega
  | false =>
   simp only [hKk, Bool.false_and, Bool.false_eq_true, if_false, List.append_nil] at hsk hplk
   refine AW.seq ?_
   refine AW.region ?_
   (refine AL.rp rfl rfl (rp_lssT rfl rfl rfl (by first | assumption | omega | (dsimp only; omega))) ?_)
   refine AL.nil ?_
   try simp only [thenS, S.put, List.nil_append, List.cons_append]
   refine AW.seq ?_
   refine AW.condT rfl ?_
   refine AW.skip ?_
   try simp only [thenS, List.nil_append, List.cons_append]
   refine AW.seq ?_
   refine AW.block ?_
   refine AW.seq ?_
   refine AW.region ?_
   refine AL.rp rfl rfl (rp_move rfl rfl) ?_
   refine AL.rp rfl rfl (rp_assign rfl rfl) ?_
   refine AL.nil ?_
   try simp only [thenS, S.put, List.nil_append, List.cons_append]
   refine AW.seq ?_
   refine AW.region ?_
   refine AL.rp rfl rfl (rp_move rfl rfl) ?_
   refine AL.rp rfl rfl (rp_move rfl rfl) ?_
   refine AL.rp rfl rfl (rp_index_own Try.underlying40 inf3 rfl rfl rfl rfl (by first | assumption | omega)) ?_
   refine AL.st rfl (st_store_map2 inf3 rfl rfl rfl rfl rfl rfl rfl rfl (by first | assumption | omega)) ?_
   refine AL.nil ?_
   try simp only [thenS, S.put, S.newObj, setL, V.cs, List.length_cons, List.length_nil, List.take_succ_cons, List.take_zero, List.drop_succ_cons, List.drop_zero, List.drop_nil, List.nil_append, List.cons_append, List.append_nil, Nat.zero_add, Nat.reduceAdd, List.map_cons, List.map_nil, List.set_cons_zero, List.set_cons_succ]
   refine AW.seq ?_
   refine AW.region ?_
   refine AL.rp rfl rfl (rp_move rfl rfl) ?_
   refine AL.rp rfl rfl (rp_move rfl rfl) ?_
   refine AL.rp rfl rfl (rp_index_map Try.underlying107 inf4 rfl rfl rfl rfl (by assumption)) ?_
   refine AL.rd rfl rfl (rd_load_ad Try.underlying4 rfl rfl rfl rfl) ?_
   refine AL.rp rfl rfl (rp_move rfl rfl) ?_
   refine AL.no rfl rfl rfl rfl ?_
   refine AL.no rfl rfl rfl rfl ?_
   refine AL.no rfl rfl rfl rfl ?_
   refine AL.no rfl rfl rfl rfl ?_
   refine AL.rp rfl rfl (rp_pick rfl rfl rfl) ?_
   refine AL.nil ?_
   try simp only [thenS, S.put, List.nil_append, List.cons_append]
   refine AW.condF rfl ?_
   refine AW.skip ?_
   try simp only [thenS, List.nil_append, List.cons_append]
   refine AW.region ?_
   refine AL.rp rfl rfl (rp_add rfl rfl rfl (by first | omega | (dsimp only; omega))) ?_
   refine AL.rp rfl rfl (rp_move rfl rfl) ?_
   refine AL.nil ?_
   try simp only [thenS, S.put, List.nil_append, List.cons_append]
   refine ⟨_, ?_, ⟨k + 1, _, by omega, by simpa using hN, hstep _ hplk.symm, rfl⟩, ?_⟩
   ·rw [hsk]
    exact (Less.of rfl (by repeat (first | exact trivial | refine ⟨⟨_, rfl, Wk.refl _⟩, ?_⟩ | refine ⟨⟨_, rfl, Wk.nil _ _⟩, ?_⟩ | refine ⟨⟨_, rfl, Wk.junk _⟩, ?_⟩)) (by repeat (first | exact trivial | refine ⟨rfl, ?_⟩ | exact LH.fam | refine LH.skip (by decide) ?_)) rfl)
   ·simp [S.nat, fnd]; omega
 ·obtain rfl : k = n := by omega
  rw [← hkept] at hlk
  obtain ⟨c, hc⟩ : ∃ c, kept.length = c := ⟨_, rfl⟩
  rw [hc] at hlk
  refine AW.seq ?_
  refine AW.region ?_
  (refine AL.rp rfl rfl (rp_lssF rfl rfl rfl (by first | assumption | omega | (dsimp only; omega))) ?_)
  refine AL.nil ?_
  try simp only [thenS, S.put, List.nil_append, List.cons_append]
  refine AW.seq ?_
  refine AW.condF rfl ?_
  refine AW.exit ?_
  try simp only [thenS, inBlockS, ↓reduceIte, Nat.reduceEqDiff, List.nil_append, List.cons_append]
  refine AW.seq ?_
  refine AW.freeze 8 8 (N.map fun x => [.p (.int .i64 x)]) rfl rfl rfl (by rw [List.length_map, hN]) (by omega) (rows1 rfl) ?_
  refine AW.less (s' := ⟨118, [(1, .ref 1 0), (2, .ref 2 0), (8, .d (intsD N))], [(1, ⟨24, [.i st, .d (stsD sts)], false, 0⟩), (2, ⟨24, [.i 0, .nil], false, 0⟩)], []⟩) (Less.of rfl (by repeat (first | exact trivial | refine ⟨⟨_, rfl, Wk.refl _⟩, ?_⟩ | refine ⟨⟨_, rfl, Wk.nil _ _⟩, ?_⟩ | refine ⟨⟨_, rfl, Wk.junk _⟩, ?_⟩)) (by repeat (first | exact trivial | refine ⟨rfl, ?_⟩ | exact LH.fam | refine LH.skip (by decide) ?_)) rfl) ?_
  refine AW.region ?_
  refine AL.rp rfl rfl (rp_build (vs := [(0, _)]) (zs := [.d (.p (.int .i64 0)), .d (.p (.slice none 0 0))]) pl24 inf24 rfl rfl rfl rfl) ?_
  refine AL.sm rfl (sm_alloc (l := [.d (.p (.int .i64 0)), .d (.p (.slice none 0 0))]) 11 inf24 rfl rfl rfl rfl) ?_
  refine AL.st rfl (st_store_any inf24 rfl rfl rfl rfl rfl rfl rfl rfl (by first | decide | (simp; done) | (simp; omega)) rfl) ?_
  refine AL.nil ?_
  try simp only [thenS, S.put, S.newObj, setL, V.cs, List.length_cons, List.length_nil, List.take_succ_cons, List.take_zero, List.drop_succ_cons, List.drop_zero, List.drop_nil, List.nil_append, List.cons_append, List.append_nil, Nat.zero_add, Nat.reduceAdd, List.map_cons, List.map_nil, List.set_cons_zero, List.set_cons_succ]
  refine AW.seqc (fun s' => s' = ⟨118, [(1, .ref 1 0), (2, .ref 2 0), (8, .d (intsD N)), (11, .ref 11 0)], [(1, ⟨24, [.i st, .d (stsD sts)], false, 0⟩), (2, ⟨24, [.i 0, .nil], false, 0⟩), (11, ⟨24, [.i (pl kept st), .nil], false, 0⟩)], []⟩) ?_ ?_
  ·skip
   by_cases hs0 : 0 ≤ st
   ·obtain ⟨p, rfl⟩ : ∃ p : Nat, st = p := ⟨st.toNat, by omega⟩
    have hNp := hNq p (by omega)
    refine AW.seq ?_
    refine AW.region ?_
    refine AL.rp rfl rfl (rp_field_ref Try.underlying24 rfl rfl rfl inf3 (by decide) rfl) ?_
    refine AL.rd rfl rfl (rd_load_ref Try.underlying3 rfl rfl rfl rfl rfl rfl) ?_
    (refine AL.rp rfl rfl (rp_geqT rfl rfl rfl (by first | assumption | omega | (dsimp only; omega))) ?_)
    refine AL.nil ?_
    try simp only [thenS, S.put, List.nil_append, List.cons_append]
    refine AW.condT rfl ?_
    refine AW.region ?_
    refine AL.rp rfl rfl (rp_move rfl rfl) ?_
    refine AL.rp rfl rfl (rp_field_ref Try.underlying24 rfl rfl rfl inf3 (by decide) rfl) ?_
    refine AL.rd rfl rfl (rd_load_ref Try.underlying3 rfl rfl rfl rfl rfl rfl) ?_
    refine AL.rp rfl rfl (rp_index_map Try.underlying40 inf3 rfl rfl rfl rfl (by assumption)) ?_
    refine AL.rd rfl rfl (rd_load_ad Try.underlying3 rfl rfl rfl rfl) ?_
    refine AL.rp rfl rfl (rp_field_ref Try.underlying24 rfl rfl rfl inf3 (by decide) rfl) ?_
    (refine AL.st rfl (st_store inf3 rfl rfl rfl rfl rfl rfl rfl (by first | decide | (simp; done)) rfl) ?_)
    refine AL.nil ?_
    try simp only [thenS, S.put, S.newObj, setL, V.cs, List.length_cons, List.length_nil, List.take_succ_cons, List.take_zero, List.drop_succ_cons, List.drop_zero, List.drop_nil, List.nil_append, List.cons_append, List.append_nil, Nat.zero_add, Nat.reduceAdd, List.map_cons, List.map_nil, List.set_cons_zero, List.set_cons_succ]
    refine ⟨_, ?_, rfl⟩
    exact (Less.of rfl (by repeat (first | exact trivial | refine ⟨⟨_, rfl, Wk.refl _⟩, ?_⟩ | refine ⟨⟨_, rfl, Wk.nil _ _⟩, ?_⟩ | refine ⟨⟨_, rfl, Wk.junk _⟩, ?_⟩)) (by repeat (first | exact trivial | refine ⟨rfl, ?_⟩ | exact LH.fam | refine LH.skip (by decide) ?_)) rfl)
   ·have hpn : pl kept st = -1 := pl_neg _ (by omega)
    refine AW.seq ?_
    refine AW.region ?_
    refine AL.rp rfl rfl (rp_field_ref Try.underlying24 rfl rfl rfl inf3 (by decide) rfl) ?_
    refine AL.rd rfl rfl (rd_load_ref Try.underlying3 rfl rfl rfl rfl rfl rfl) ?_
    (refine AL.rp rfl rfl (rp_geqF rfl rfl rfl (by first | assumption | omega | (dsimp only; omega))) ?_)
    refine AL.nil ?_
    try simp only [thenS, S.put, List.nil_append, List.cons_append]
    refine AW.condF rfl ?_
    refine AW.skip ?_
    try simp only [thenS, List.nil_append, List.cons_append]
    refine ⟨_, ?_, rfl⟩
    rw [hpn]
    exact (Less.of rfl (by repeat (first | exact trivial | refine ⟨⟨_, rfl, Wk.refl _⟩, ?_⟩ | refine ⟨⟨_, rfl, Wk.nil _ _⟩, ?_⟩ | refine ⟨⟨_, rfl, Wk.junk _⟩, ?_⟩)) (by repeat (first | exact trivial | refine ⟨rfl, ?_⟩ | exact LH.fam | refine LH.skip (by decide) ?_)) rfl)
  ·rintro s' rfl
   obtain ⟨n, rfl⟩ : ∃ n, n = k := ⟨_, rfl⟩
   refine AW.adoptH 11 1 901 2 52 rfl rfl rfl (by simp [S.clean, V.has, V.hasL, V.cs, setL]) ?_
   refine AW.seq ?_
   refine AW.seq ?_
   refine AW.region ?_
   refine AL.rp rfl rfl (rp_field_ref Try.underlying24 rfl rfl rfl inf22 (by decide) rfl) ?_
   refine AL.rd rfl rfl (rd_load_ref Try.underlying22 rfl rfl rfl rfl rfl rfl) ?_
   refine AL.rp rfl rfl (rp_len_map Try.underlying22 rfl rfl (by assumption)) ?_
   refine AL.rp rfl rfl (rp_move rfl rfl) ?_
   refine AL.nil ?_
   try simp only [thenS, S.put, List.nil_append, List.cons_append]
   refine AW.block ?_
   refine AW.loop (fun s' => ∃ (k : Nat) (P : List St), k ≤ n ∧ P = (((List.range k).filter K).map fun q => tState kept (sts.getD q ⟨0, []⟩)) ∧ s' = ⟨118, [(1, .ref 1 0), (2, .ref 2 0), (8, .d (intsD N)), (11, .ref 11 0), (72, .d (stsD sts)), (73, .i n), (74, .i k)], [(1, ⟨24, [.i st, .d (stsD sts)], false, 0⟩), (2, ⟨24, [.i 0, .nil], false, 0⟩), (11, ⟨24, [.i (pl kept st), .own 901 2 P.length (decide (P.length = 0))], false, 0⟩), (901, ⟨52, FS.cells 1000 P, decide (P.length = 0), 2⟩)] ++ FS.objs 1000 P, []⟩) (fun s' => n - s'.nat 74) ⟨_, ?_, 0, [], by omega, rfl, rfl⟩ ?_
   ·exact (Less.of rfl (by repeat (first | exact trivial | refine ⟨⟨_, rfl, Wk.refl _⟩, ?_⟩ | refine ⟨⟨_, rfl, Wk.nil _ _⟩, ?_⟩ | refine ⟨⟨_, rfl, Wk.junk _⟩, ?_⟩)) (by repeat (first | exact trivial | refine ⟨rfl, ?_⟩ | exact LH.fam | refine LH.skip (by decide) ?_)) rfl)
   rintro s' ⟨k, P, hk, hP, rfl⟩
   have hlk := filter_range_len K k
   have hPl : P.length ≤ k := by rw [hP, List.length_map]; exact hlk
   by_cases hlt : k < n
   ·obtain ⟨x, hx⟩ := get_lt hn hlt
    have hNk := hNq k hlt
    have hplk := hpl k hlt
    have hsk := filter_range_succ K k
    by_cases hKk : K k = true
    ·rw [if_pos hKk] at hplk hsk
     have hpos : ¬ pl kept k < 0 := by rw [hplk]; omega
     obtain ⟨la, hla⟩ : ∃ n, x.arcs.length = n := ⟨_, rfl⟩
     have hla' := Nat.le_trans (arcN_mem sts x (List.mem_of_getElem? hx)) hz2
     rw [hla] at hla'
     have hxd : sts.getD k ⟨0, []⟩ = x := by simp [List.getD_eq_getElem?_getD, hx]
     have hPs : P ++ [⟨x.fin, x.arcs.filterMap (tArc kept)⟩] = (((List.range (k + 1)).filter K).map fun q => tState kept (sts.getD q ⟨0, []⟩)) := by
      rw [hsk, List.map_append, ← hP, List.map_cons, List.map_nil, hxd]; rfl
     have hfl := fs_cells_len P
     refine AW.seq ?_
     refine AW.region ?_
     (refine AL.rp rfl rfl (rp_lssT rfl rfl rfl (by first | assumption | omega | (dsimp only; omega))) ?_)
     refine AL.nil ?_
     try simp only [thenS, S.put, List.nil_append, List.cons_append]
     refine AW.seq ?_
     refine AW.condT rfl ?_
     refine AW.skip ?_
     try simp only [thenS, List.nil_append, List.cons_append]
     refine AW.seq ?_
     refine AW.block ?_
     refine AW.seq ?_
     refine AW.region ?_
     refine AL.rp rfl rfl (rp_move rfl rfl) ?_
     refine AL.rp rfl rfl (rp_index_map Try.underlying22 inf52 rfl rfl rfl rfl (by assumption)) ?_
     refine AL.rd rfl rfl (rd_loads_ad Try.underlying52 rfl inf52 rfl rfl rfl rfl) ?_
     refine AL.sm rfl (sm_alloc (l := [.d (.p (.int .i64 0)), .d (.p (.slice none 0 0))]) 13 inf52 rfl (by first | rfl | (simp only [S.clean, S.put, S.newObj, List.all_cons, objs_clean_low, Nat.reduceLT]; simp [S.forget, V.has, V.hasL, junkIf, setL, V.cs, hasL_i, hasL_b, hasL_s, hasL_n, hasL_rep, hasL_flat, hasL_append, cells_hasL_low, has_ownV, hasL_frep, nb1, nb2, nb3, nb4, -List.map_set]; try omega)) rfl rfl) ?_
     refine AL.rp rfl rfl (rp_assign rfl rfl) ?_
     refine AL.st rfl (st_store_any inf52 rfl rfl rfl rfl rfl rfl rfl rfl (by first | decide | (simp; done) | (simp; omega)) rfl) ?_
     refine AL.nil ?_
     try simp only [thenS, S.put, S.newObj, setL, V.cs, List.length_cons, List.length_nil, List.take_succ_cons, List.take_zero, List.drop_succ_cons, List.drop_zero, List.drop_nil, List.nil_append, List.cons_append, List.append_nil, Nat.zero_add, Nat.reduceAdd, List.map_cons, List.map_nil, List.set_cons_zero, List.set_cons_succ]
     refine AW.seq ?_
     refine AW.seq ?_
     refine AW.region ?_
     refine AL.rp rfl rfl (rp_move rfl rfl) ?_
     refine AL.rp rfl rfl (rp_move rfl rfl) ?_
     refine AL.rp rfl rfl (rp_index_map Try.underlying40 inf3 rfl rfl rfl rfl (by assumption)) ?_
     refine AL.rd rfl rfl (rd_load_ad Try.underlying3 rfl rfl rfl rfl) ?_
     (refine AL.rp rfl rfl (rp_lssF rfl rfl rfl (by first | assumption | omega | (dsimp only; omega))) ?_)
     refine AL.nil ?_
     try simp only [thenS, S.put, List.nil_append, List.cons_append]
     refine AW.condF rfl ?_
     refine AW.skip ?_
     try simp only [thenS, List.nil_append, List.cons_append]
     refine AW.seq ?_
     refine AW.region ?_
     refine AL.rp rfl rfl (rp_field_ref Try.underlying52 rfl rfl rfl inf3 (by decide) rfl) ?_
     refine AL.rd rfl rfl (rd_load_ref Try.underlying3 rfl rfl rfl rfl rfl rfl) ?_
     refine AL.rp rfl rfl (rp_build (vs := [(0, _)]) (zs := [.d (.p (.int .i64 0)), .d (.p (.slice none 0 0))]) pl52 inf52 rfl rfl rfl rfl) ?_
     refine AL.sm rfl (sm_alloc (l := [.d (.p (.int .i64 0)), .d (.p (.slice none 0 0))]) 14 inf52 rfl (by first | rfl | (simp only [S.clean, S.put, S.newObj, List.all_cons, objs_clean_low, Nat.reduceLT]; simp [S.forget, V.has, V.hasL, junkIf, setL, V.cs, hasL_i, hasL_b, hasL_s, hasL_n, hasL_rep, hasL_flat, hasL_append, cells_hasL_low, has_ownV, hasL_frep, nb1, nb2, nb3, nb4, -List.map_set]; try omega)) rfl rfl) ?_
     refine AL.st rfl (st_store_any inf52 rfl rfl rfl rfl rfl rfl rfl rfl (by first | decide | (simp; done) | (simp; omega)) rfl) ?_
     refine AL.nil ?_
     try simp only [thenS, S.put, S.newObj, setL, V.cs, List.length_cons, List.length_nil, List.take_succ_cons, List.take_zero, List.drop_succ_cons, List.drop_zero, List.drop_nil, List.nil_append, List.cons_append, List.append_nil, Nat.zero_add, Nat.reduceAdd, List.map_cons, List.map_nil, List.set_cons_zero, List.set_cons_succ]
     refine AW.seq ?_
     refine AW.seq ?_
     refine AW.adoptH 14 1 102 4 56 rfl rfl rfl (by simp [S.clean, V.has, V.hasL, V.cs, setL, objs_clean_low, cells_hasL_low]) ?_
     refine AW.region ?_
     refine AL.rp rfl rfl (rp_field_ref Try.underlying52 rfl rfl rfl inf50 (by decide) rfl) ?_
     refine AL.rd rfl rfl (rd_load_ref Try.underlying50 rfl rfl rfl rfl rfl rfl) ?_
     refine AL.rp rfl rfl (rp_len_map Try.underlying50 rfl rfl (by assumption)) ?_
     refine AL.rp rfl rfl (rp_move rfl rfl) ?_
     refine AL.nil ?_
     try simp only [thenS, S.put, List.nil_append, List.cons_append]
     refine AW.block ?_
     refine AW.loop (fun s' => ∃ i : Nat, i ≤ la ∧ s' = ⟨118, [(1, .ref 1 0), (2, .ref 2 0), (8, .d (intsD N)), (11, .ref 11 0), (14, .ref 14 0), (72, .d (stsD sts)), (73, .i n), (74, .i k), (88, .d (arsD x.arcs)), (89, .i la), (90, .i i)], [(1, ⟨24, [.i st, .d (stsD sts)], false, 0⟩), (2, ⟨24, [.i 0, .nil], false, 0⟩), (11, ⟨24, [.i (pl kept st), .own 901 2 P.length (decide (P.length = 0))], false, 0⟩), (901, ⟨52, FS.cells 1000 P, decide (P.length = 0), 2⟩), (14, ⟨52, [.i x.fin, .own 102 4 ((x.arcs.take i).filterMap (tArc kept)).length (decide (((x.arcs.take i).filterMap (tArc kept)).length = 0))], false, 0⟩), (102, ⟨56, ((x.arcs.take i).filterMap (tArc kept)).flatMap arV2, decide (((x.arcs.take i).filterMap (tArc kept)).length = 0), 4⟩)] ++ FS.objs 1000 P, []⟩) (fun s' => la - s'.nat 90) ⟨_, ?_, 0, by omega, rfl⟩ ?_
     ·exact (Less.of rfl (by repeat (first | exact trivial | refine ⟨⟨_, rfl, Wk.refl _⟩, ?_⟩ | refine ⟨⟨_, rfl, Wk.nil _ _⟩, ?_⟩ | refine ⟨⟨_, rfl, Wk.junk _⟩, ?_⟩)) (by repeat (first | exact trivial | refine ⟨rfl, ?_⟩ | exact LH.fam | refine LH.skip (by decide) ?_)) rfl)
     rintro s' ⟨i, hi, rfl⟩
     have hfm : ((x.arcs.take i).filterMap (tArc kept)).length ≤ la := by
      have := List.length_filterMap_le (tArc kept) (x.arcs.take i)
      rw [List.length_take] at this
      omega
     have hfl2 : (((x.arcs.take i).filterMap (tArc kept)).flatMap arV2).length = ((x.arcs.take i).filterMap (tArc kept)).length * 4 := flat_len (sz := 4) (fun _ => rfl)
     by_cases hil : i < la
     ·obtain ⟨y, hy⟩ := get_lt hla hil
      have hyt := (hz x (List.mem_of_getElem? hx)).2 y (List.mem_of_getElem? hy)
      have hsn2 := filterMap_snoc (tArc kept) hy
      obtain ⟨yi, yo, yw, yt⟩ := y
      simp only [arOk, decide_eq_true_eq] at hyt
      obtain ⟨p, rfl⟩ : ∃ p : Nat, yt = p := ⟨yt.toNat, by omega⟩
      have hNp := hNq p (by omega)
      by_cases hp : 0 ≤ pl kept p
      ·have hty : tArc kept ⟨yi, yo, yw, p⟩ = some ⟨yi, yo, yw, pl kept p⟩ := by unfold tArc; rw [if_pos hp]
       rw [hty, Option.toList] at hsn2
       refine AW.seq ?_
       refine AW.region ?_
       (refine AL.rp rfl rfl (rp_lssT rfl rfl rfl (by first | assumption | omega | (dsimp only; omega))) ?_)
       refine AL.nil ?_
       try simp only [thenS, S.put, List.nil_append, List.cons_append]
       refine AW.seq ?_
       refine AW.condT rfl ?_
       refine AW.skip ?_
       try simp only [thenS, List.nil_append, List.cons_append]
       refine AW.seq ?_
       refine AW.block ?_
       refine AW.seq ?_
       refine AW.region ?_
       refine AL.rp rfl rfl (rp_index_map Try.underlying50 inf56 rfl rfl rfl rfl (by assumption)) ?_
       refine AL.rd rfl rfl (rd_loads_ad Try.underlying56 rfl inf56 rfl rfl rfl rfl) ?_
       refine AL.sm rfl (sm_alloc (l := [.d (.p (.int .i64 0)), .d (.p (.int .i64 0)), .d (.p (.int .i64 0)), .d (.p (.int .i64 0))]) 16 inf56 rfl (by first | rfl | (simp only [S.clean, S.put, S.newObj, List.all_cons, objs_clean_low, Nat.reduceLT]; simp [S.forget, V.has, V.hasL, junkIf, setL, V.cs, hasL_i, hasL_b, hasL_s, hasL_n, hasL_rep, hasL_flat, hasL_append, cells_hasL_low, has_ownV, hasL_frep, nb1, nb2, nb3, nb4, -List.map_set]; try omega)) rfl rfl) ?_
       refine AL.st rfl (st_store_any inf56 rfl rfl rfl rfl rfl rfl rfl rfl (by first | decide | (simp; done) | (simp; omega)) rfl) ?_
       refine AL.nil ?_
       try simp only [thenS, S.put, S.newObj, setL, V.cs, List.length_cons, List.length_nil, List.take_succ_cons, List.take_zero, List.drop_succ_cons, List.drop_zero, List.drop_nil, List.nil_append, List.cons_append, List.append_nil, Nat.zero_add, Nat.reduceAdd, List.map_cons, List.map_nil, List.set_cons_zero, List.set_cons_succ]
       refine AW.seq ?_
       refine AW.region ?_
       refine AL.rp rfl rfl (rp_move rfl rfl) ?_
       refine AL.rp rfl rfl (rp_field_ref Try.underlying56 rfl rfl rfl inf3 (by decide) rfl) ?_
       refine AL.rd rfl rfl (rd_load_ref Try.underlying3 rfl rfl rfl rfl rfl rfl) ?_
       refine AL.rp rfl rfl (rp_index_map Try.underlying40 inf3 rfl rfl rfl rfl (by assumption)) ?_
       refine AL.rd rfl rfl (rd_load_ad Try.underlying3 rfl rfl rfl rfl) ?_
       refine AL.rp rfl rfl (rp_field_ref Try.underlying56 rfl rfl rfl inf3 (by decide) rfl) ?_
       (refine AL.st rfl (st_store inf3 rfl rfl rfl rfl rfl rfl rfl (by first | decide | (simp; done)) rfl) ?_)
       refine AL.nil ?_
       try simp only [thenS, S.put, S.newObj, setL, V.cs, List.length_cons, List.length_nil, List.take_succ_cons, List.take_zero, List.drop_succ_cons, List.drop_zero, List.drop_nil, List.nil_append, List.cons_append, List.append_nil, Nat.zero_add, Nat.reduceAdd, List.map_cons, List.map_nil, List.set_cons_zero, List.set_cons_succ]
       refine AW.seq ?_
       refine AW.region ?_
       refine AL.rp rfl rfl (rp_field_ref Try.underlying56 rfl rfl rfl inf3 (by decide) rfl) ?_
       refine AL.rd rfl rfl (rd_load_ref Try.underlying3 rfl rfl rfl rfl rfl rfl) ?_
       (refine AL.rp rfl rfl (rp_geqT rfl rfl rfl (by first | assumption | omega | (dsimp only; omega))) ?_)
       refine AL.nil ?_
       try simp only [thenS, S.put, List.nil_append, List.cons_append]
       refine AW.condT rfl ?_
       refine AW.region ?_
       refine AL.rp rfl rfl (rp_field_ref Try.underlying52 rfl rfl rfl inf50 (by decide) rfl) ?_
       refine AL.rd rfl rfl (rd_load_ref Try.underlying50 rfl rfl rfl rfl rfl rfl) ?_
       refine AL.rd rfl rfl (rd_loads_ref Try.underlying56 rfl inf56 rfl rfl rfl rfl rfl rfl) ?_
       refine AL.sm rfl (sm_slice (vs := [(0, _)]) (zs := [.d (.p (.int .i64 0)), .d (.p (.int .i64 0)), .d (.p (.int .i64 0)), .d (.p (.int .i64 0))]) 106 Try.underlying50 inf56 rfl rfl (by decide) (by decide) (by decide) rfl rfl rfl rfl (by first | rfl | (simp only [S.clean, S.put, S.newObj, List.all_cons, objs_clean_low, Nat.reduceLT]; simp [S.forget, V.has, V.hasL, junkIf, setL, V.cs, hasL_i, hasL_b, hasL_s, hasL_n, hasL_rep, hasL_flat, hasL_append, cells_hasL_low, has_ownV, hasL_frep, nb1, nb2, nb3, nb4, -List.map_set]; try omega)) rfl rfl) ?_
       refine AL.st rfl (st_appendF Try.underlying50 inf56 rfl (by decide) rfl rfl rfl rfl rfl rfl (by first | assumption | rfl | (simp; done)) (by first | rfl | (simp only [S.clean, S.put, S.newObj, List.all_cons, objs_clean_low, Nat.reduceLT]; simp [S.forget, V.has, V.hasL, junkIf, setL, V.cs, hasL_i, hasL_b, hasL_s, hasL_n, hasL_rep, hasL_flat, hasL_append, cells_hasL_low, has_ownV, hasL_frep, nb1, nb2, nb3, nb4, -List.map_set]; try omega)) rfl rfl rfl rfl rfl rfl rfl (by decide) (by omega) (by omega) rfl) ?_
       simp only [objs_filter_low, Fam.objs_forget, cells_hasL_low, has_ownV, nb3, nb4, Nat.reduceLT, S.forget, S.put, S.newObj, junkIf, V.has, V.hasL, hasL_i, hasL_b, hasL_s, hasL_d, hasL_n, hasL_rep, hasL_flat, hasL_append, List.map_cons, List.map_nil, List.filter_cons, List.filter_nil, Nat.reduceBNe, Nat.reduceBEq, eq_self, bne_self_eq_false,  Bool.not_true, Bool.not_false, Bool.or_false, Bool.or_true, Bool.false_or, Bool.true_or, if_true, if_false, Bool.false_eq_true, ite_true, ite_false, ↓reduceIte, beq_self_eq_true, Nat.reduceEqDiff]
       refine AL.rp rfl rfl (rp_field_ref Try.underlying52 rfl rfl rfl inf50 (by decide) rfl) ?_
       (refine AL.st rfl (st_store inf50 rfl rfl rfl rfl rfl rfl rfl (by first | decide | (simp; done)) rfl) ?_)
       refine AL.nil ?_
       try simp only [thenS, S.put, S.newObj, setL, V.cs, List.length_cons, List.length_nil, List.take_succ_cons, List.take_zero, List.drop_succ_cons, List.drop_zero, List.drop_nil, List.nil_append, List.cons_append, List.append_nil, Nat.zero_add, Nat.reduceAdd, List.map_cons, List.map_nil, List.set_cons_zero, List.set_cons_succ]
       refine AW.region ?_
       refine AL.rp rfl rfl (rp_add rfl rfl rfl (by first | omega | (dsimp only; omega))) ?_
       refine AL.rp rfl rfl (rp_move rfl rfl) ?_
       refine AL.nil ?_
       try simp only [thenS, S.put, List.nil_append, List.cons_append]
       refine ⟨_, ?_, ⟨i + 1, by omega, rfl⟩, ?_⟩
       ·rw [hsn2]
        simp only [List.flatMap_append, List.flatMap_cons, List.flatMap_nil, List.append_nil, List.length_append, List.length_cons, List.length_nil, Nat.zero_add]
        exact (Less.of rfl (by repeat (first | exact trivial | refine ⟨⟨_, rfl, Wk.refl _⟩, ?_⟩ | refine ⟨⟨_, rfl, Wk.nil _ _⟩, ?_⟩ | refine ⟨⟨_, rfl, Wk.junk _⟩, ?_⟩)) (by repeat (first | exact trivial | refine ⟨rfl, ?_⟩ | exact LH.fam | refine LH.skip (by decide) ?_)) rfl)
       ·simp [S.nat, fnd]; omega
      ·have hty : tArc kept ⟨yi, yo, yw, p⟩ = none := by unfold tArc; rw [if_neg hp]
       rw [hty, Option.toList, List.append_nil] at hsn2
       refine AW.seq ?_
       refine AW.region ?_
       (refine AL.rp rfl rfl (rp_lssT rfl rfl rfl (by first | assumption | omega | (dsimp only; omega))) ?_)
       refine AL.nil ?_
       try simp only [thenS, S.put, List.nil_append, List.cons_append]
       refine AW.seq ?_
       refine AW.condT rfl ?_
       refine AW.skip ?_
       try simp only [thenS, List.nil_append, List.cons_append]
       refine AW.seq ?_
       refine AW.block ?_
       refine AW.seq ?_
       refine AW.region ?_
       refine AL.rp rfl rfl (rp_index_map Try.underlying50 inf56 rfl rfl rfl rfl (by assumption)) ?_
       refine AL.rd rfl rfl (rd_loads_ad Try.underlying56 rfl inf56 rfl rfl rfl rfl) ?_
       refine AL.sm rfl (sm_alloc (l := [.d (.p (.int .i64 0)), .d (.p (.int .i64 0)), .d (.p (.int .i64 0)), .d (.p (.int .i64 0))]) 16 inf56 rfl (by first | rfl | (simp only [S.clean, S.put, S.newObj, List.all_cons, objs_clean_low, Nat.reduceLT]; simp [S.forget, V.has, V.hasL, junkIf, setL, V.cs, hasL_i, hasL_b, hasL_s, hasL_n, hasL_rep, hasL_flat, hasL_append, cells_hasL_low, has_ownV, hasL_frep, nb1, nb2, nb3, nb4, -List.map_set]; try omega)) rfl rfl) ?_
       refine AL.st rfl (st_store_any inf56 rfl rfl rfl rfl rfl rfl rfl rfl (by first | decide | (simp; done) | (simp; omega)) rfl) ?_
       refine AL.nil ?_
       try simp only [thenS, S.put, S.newObj, setL, V.cs, List.length_cons, List.length_nil, List.take_succ_cons, List.take_zero, List.drop_succ_cons, List.drop_zero, List.drop_nil, List.nil_append, List.cons_append, List.append_nil, Nat.zero_add, Nat.reduceAdd, List.map_cons, List.map_nil, List.set_cons_zero, List.set_cons_succ]
       refine AW.seq ?_
       refine AW.region ?_
       refine AL.rp rfl rfl (rp_move rfl rfl) ?_
       refine AL.rp rfl rfl (rp_field_ref Try.underlying56 rfl rfl rfl inf3 (by decide) rfl) ?_
       refine AL.rd rfl rfl (rd_load_ref Try.underlying3 rfl rfl rfl rfl rfl rfl) ?_
       refine AL.rp rfl rfl (rp_index_map Try.underlying40 inf3 rfl rfl rfl rfl (by assumption)) ?_
       refine AL.rd rfl rfl (rd_load_ad Try.underlying3 rfl rfl rfl rfl) ?_
       refine AL.rp rfl rfl (rp_field_ref Try.underlying56 rfl rfl rfl inf3 (by decide) rfl) ?_
       (refine AL.st rfl (st_store inf3 rfl rfl rfl rfl rfl rfl rfl (by first | decide | (simp; done)) rfl) ?_)
       refine AL.nil ?_
       try simp only [thenS, S.put, S.newObj, setL, V.cs, List.length_cons, List.length_nil, List.take_succ_cons, List.take_zero, List.drop_succ_cons, List.drop_zero, List.drop_nil, List.nil_append, List.cons_append, List.append_nil, Nat.zero_add, Nat.reduceAdd, List.map_cons, List.map_nil, List.set_cons_zero, List.set_cons_succ]
       refine AW.seq ?_
       refine AW.region ?_
       refine AL.rp rfl rfl (rp_field_ref Try.underlying56 rfl rfl rfl inf3 (by decide) rfl) ?_
       refine AL.rd rfl rfl (rd_load_ref Try.underlying3 rfl rfl rfl rfl rfl rfl) ?_
       (refine AL.rp rfl rfl (rp_geqF rfl rfl rfl (by first | assumption | omega | (dsimp only; omega))) ?_)
       refine AL.nil ?_
       try simp only [thenS, S.put, List.nil_append, List.cons_append]
       refine AW.condF rfl ?_
       refine AW.skip ?_
       try simp only [thenS, List.nil_append, List.cons_append]
       refine AW.region ?_
       refine AL.rp rfl rfl (rp_add rfl rfl rfl (by first | omega | (dsimp only; omega))) ?_
       refine AL.rp rfl rfl (rp_move rfl rfl) ?_
       refine AL.nil ?_
       try simp only [thenS, S.put, List.nil_append, List.cons_append]
       refine ⟨_, ?_, ⟨i + 1, by omega, rfl⟩, ?_⟩
       ·rw [hsn2]
        exact (Less.of rfl (by repeat (first | exact trivial | refine ⟨⟨_, rfl, Wk.refl _⟩, ?_⟩ | refine ⟨⟨_, rfl, Wk.nil _ _⟩, ?_⟩ | refine ⟨⟨_, rfl, Wk.junk _⟩, ?_⟩)) (by repeat (first | exact trivial | refine ⟨rfl, ?_⟩ | exact LH.fam | refine LH.skip (by decide) ?_)) rfl)
       ·simp [S.nat, fnd]; omega
     ·have hfull : x.arcs.take i = x.arcs := List.take_of_length_le (by omega)
      rw [hfull] at hfm hfl2 ⊢
      obtain ⟨R, hR⟩ : ∃ R, x.arcs.filterMap (tArc kept) = R := ⟨_, rfl⟩
      rw [hR] at hfm hfl2 hPs ⊢
      have hrow := fs_row x.fin R
      have hRe : (FS.it ⟨x.fin, R⟩).isEmpty = decide (R.length = 0) := by cases R <;> rfl
      have hRl : (FS.it ⟨x.fin, R⟩).length = R.length := by simp [FS]
      refine AW.seq ?_
      refine AW.region ?_
      (refine AL.rp rfl rfl (rp_lssF rfl rfl rfl (by first | assumption | omega | (dsimp only; omega))) ?_)
      refine AL.nil ?_
      try simp only [thenS, S.put, List.nil_append, List.cons_append]
      refine AW.seq ?_
      refine AW.condF rfl ?_
      refine AW.exit ?_
      try simp only [thenS, inBlockS, ↓reduceIte, Nat.reduceEqDiff, List.nil_append, List.cons_append]
      refine AW.region ?_
      refine AL.rp rfl rfl (rp_field_ref Try.underlying24 rfl rfl rfl inf22 (by decide) rfl) ?_
      refine AL.rd rfl rfl (rd_load_ref Try.underlying22 rfl rfl rfl rfl rfl rfl) ?_
      refine AL.rd rfl rfl (rd_loads_ref Try.underlying52 rfl inf52 rfl rfl rfl rfl rfl rfl) ?_
      refine AL.sm rfl (sm_slice (vs := [(0, _)]) (zs := [.d (.p (.int .i64 0)), .d (.p (.slice none 0 0))]) 113 Try.underlying22 inf52 rfl rfl (by decide) (by decide) (by decide) rfl rfl rfl rfl (by first | rfl | (simp only [S.clean, S.put, S.newObj, List.all_cons, objs_clean_low, Nat.reduceLT]; simp [S.forget, V.has, V.hasL, junkIf, setL, V.cs, hasL_i, hasL_b, hasL_s, hasL_n, hasL_rep, hasL_flat, hasL_append, cells_hasL_low, has_ownV, hasL_frep, nb1, nb2, nb3, nb4, -List.map_set]; try omega)) rfl rfl) ?_
      refine AL.st rfl (st_appendF Try.underlying22 inf52 rfl (by decide) rfl rfl rfl rfl rfl rfl (by first | assumption | rfl | (simp; done)) (by first | rfl | (simp only [S.clean, S.put, S.newObj, List.all_cons, objs_clean_low, Nat.reduceLT]; simp [S.forget, V.has, V.hasL, junkIf, setL, V.cs, hasL_i, hasL_b, hasL_s, hasL_n, hasL_rep, hasL_flat, hasL_append, cells_hasL_low, has_ownV, hasL_frep, nb1, nb2, nb3, nb4, -List.map_set]; try omega)) rfl rfl rfl rfl rfl rfl rfl (by decide) (by omega) (by omega) rfl) ?_
      simp only [objs_filter_low, Fam.objs_forget, cells_hasL_low, has_ownV, nb3, nb4, Nat.reduceLT, S.forget, S.put, S.newObj, junkIf, V.has, V.hasL, hasL_i, hasL_b, hasL_s, hasL_d, hasL_n, hasL_rep, hasL_flat, hasL_append, List.map_cons, List.map_nil, List.filter_cons, List.filter_nil, Nat.reduceBNe, Nat.reduceBEq, eq_self, bne_self_eq_false,  Bool.not_true, Bool.not_false, Bool.or_false, Bool.or_true, Bool.false_or, Bool.true_or, if_true, if_false, Bool.false_eq_true, ite_true, ite_false, ↓reduceIte, beq_self_eq_true, Nat.reduceEqDiff]
      refine AL.rp rfl rfl (rp_field_ref Try.underlying24 rfl rfl rfl inf22 (by decide) rfl) ?_
      (refine AL.st rfl (st_store inf22 rfl rfl rfl rfl rfl rfl rfl (by first | decide | (simp; done)) rfl) ?_)
      refine AL.nil ?_
      try simp only [thenS, S.put, S.newObj, setL, V.cs, List.length_cons, List.length_nil, List.take_succ_cons, List.take_zero, List.drop_succ_cons, List.drop_zero, List.drop_nil, List.nil_append, List.cons_append, List.append_nil, Nat.zero_add, Nat.reduceAdd, List.map_cons, List.map_nil, List.set_cons_zero, List.set_cons_succ]
      refine AW.less (s' := ⟨118, [(1, .ref 1 0), (2, .ref 2 0), (8, .d (intsD N)), (11, .ref 11 0), (72, .d (stsD sts)), (73, .i n), (74, .i k)], [(1, ⟨24, [.i st, .d (stsD sts)], false, 0⟩), (2, ⟨24, [.i 0, .nil], false, 0⟩), (11, ⟨24, [.i (pl kept st), .own 901 2 (P.length + 1) false], false, 0⟩), (901, ⟨52, FS.cells 1000 P ++ [.i x.fin, .own 102 4 R.length (decide (R.length = 0))], false, 2⟩), (102, ⟨56, R.flatMap arV2, decide (R.length = 0), 4⟩)] ++ FS.objs 1000 P, []⟩) (Less.of rfl (by repeat (first | exact trivial | refine ⟨⟨_, rfl, Wk.refl _⟩, ?_⟩ | refine ⟨⟨_, rfl, Wk.nil _ _⟩, ?_⟩ | refine ⟨⟨_, rfl, Wk.junk _⟩, ?_⟩)) (by repeat (first | exact trivial | refine ⟨rfl, ?_⟩ | exact LH.fam | refine LH.skip (by decide) ?_)) rfl) ?_
      refine AW.famPush (F := FS) [_, _, _, _, _] 901 102 ⟨x.fin, R⟩ rfl rfl rfl (by rw [hrow]; rfl) (by rw [hRe, hRl]; rfl) (by decide) rfl (by simp [V.hasL, V.has]) rfl rfl (by intro y hy _ r hr; simp only [List.mem_cons, List.not_mem_nil, or_false] at hy; rcases hy with rfl | rfl | rfl | rfl | rfl <;> first | (simp [V.hasL, V.has]; omega) | simp_all [V.hasL, V.has]) rfl rfl ?_
      refine AW.region ?_
      refine AL.rp rfl rfl (rp_add rfl rfl rfl (by first | omega | (dsimp only; omega))) ?_
      refine AL.rp rfl rfl (rp_move rfl rfl) ?_
      refine AL.nil ?_
      try simp only [thenS, S.put, List.nil_append, List.cons_append]
      refine ⟨_, ?_, ⟨k + 1, _, by omega, hPs, rfl⟩, ?_⟩
      ·simp only [List.length_append, List.length_cons, List.length_nil, Nat.zero_add]
       exact (Less.of rfl (by repeat (first | exact trivial | refine ⟨⟨_, rfl, Wk.refl _⟩, ?_⟩ | refine ⟨⟨_, rfl, Wk.nil _ _⟩, ?_⟩ | refine ⟨⟨_, rfl, Wk.junk _⟩, ?_⟩)) (by repeat (first | exact trivial | refine ⟨rfl, ?_⟩ | exact LH.fam | refine LH.skip (by decide) ?_)) rfl)
      ·simp [S.nat, fnd]; omega
    ·rw [if_neg hKk] at hplk hsk
     rw [List.append_nil] at hsk
     have hneg : pl kept k < 0 := by rw [hplk]; omega
     refine AW.seq ?_
     refine AW.region ?_
     (refine AL.rp rfl rfl (rp_lssT rfl rfl rfl (by first | assumption | omega | (dsimp only; omega))) ?_)
     refine AL.nil ?_
     try simp only [thenS, S.put, List.nil_append, List.cons_append]
     refine AW.seq ?_
     refine AW.condT rfl ?_
     refine AW.skip ?_
     try simp only [thenS, List.nil_append, List.cons_append]
     refine AW.seq ?_
     refine AW.block ?_
     refine AW.seq ?_
     refine AW.region ?_
     refine AL.rp rfl rfl (rp_move rfl rfl) ?_
     refine AL.rp rfl rfl (rp_index_map Try.underlying22 inf52 rfl rfl rfl rfl (by assumption)) ?_
     refine AL.rd rfl rfl (rd_loads_ad Try.underlying52 rfl inf52 rfl rfl rfl rfl) ?_
     refine AL.sm rfl (sm_alloc (l := [.d (.p (.int .i64 0)), .d (.p (.slice none 0 0))]) 13 inf52 rfl (by first | rfl | (simp only [S.clean, S.put, S.newObj, List.all_cons, objs_clean_low, Nat.reduceLT]; simp [S.forget, V.has, V.hasL, junkIf, setL, V.cs, hasL_i, hasL_b, hasL_s, hasL_n, hasL_rep, hasL_flat, hasL_append, cells_hasL_low, has_ownV, hasL_frep, nb1, nb2, nb3, nb4, -List.map_set]; try omega)) rfl rfl) ?_
     refine AL.rp rfl rfl (rp_assign rfl rfl) ?_
     refine AL.st rfl (st_store_any inf52 rfl rfl rfl rfl rfl rfl rfl rfl (by first | decide | (simp; done) | (simp; omega)) rfl) ?_
     refine AL.nil ?_
     try simp only [thenS, S.put, S.newObj, setL, V.cs, List.length_cons, List.length_nil, List.take_succ_cons, List.take_zero, List.drop_succ_cons, List.drop_zero, List.drop_nil, List.nil_append, List.cons_append, List.append_nil, Nat.zero_add, Nat.reduceAdd, List.map_cons, List.map_nil, List.set_cons_zero, List.set_cons_succ]
     refine AW.seq ?_
     refine AW.seq ?_
     refine AW.region ?_
     refine AL.rp rfl rfl (rp_move rfl rfl) ?_
     refine AL.rp rfl rfl (rp_move rfl rfl) ?_
     refine AL.rp rfl rfl (rp_index_map Try.underlying40 inf3 rfl rfl rfl rfl (by assumption)) ?_
     refine AL.rd rfl rfl (rd_load_ad Try.underlying3 rfl rfl rfl rfl) ?_
     (refine AL.rp rfl rfl (rp_lssT rfl rfl rfl (by first | assumption | omega | (dsimp only; omega))) ?_)
     refine AL.nil ?_
     try simp only [thenS, S.put, List.nil_append, List.cons_append]
     refine AW.condT rfl ?_
     refine AW.exit ?_
     try simp only [thenS, inBlockS, ↓reduceIte, Nat.reduceEqDiff, List.nil_append, List.cons_append]
     refine AW.region ?_
     refine AL.rp rfl rfl (rp_add rfl rfl rfl (by first | omega | (dsimp only; omega))) ?_
     refine AL.rp rfl rfl (rp_move rfl rfl) ?_
     refine AL.nil ?_
     try simp only [thenS, S.put, List.nil_append, List.cons_append]
     refine ⟨_, ?_, ⟨k + 1, P, by omega, by rw [hsk]; exact hP, rfl⟩, ?_⟩
     ·exact (Less.of rfl (by repeat (first | exact trivial | refine ⟨⟨_, rfl, Wk.refl _⟩, ?_⟩ | refine ⟨⟨_, rfl, Wk.nil _ _⟩, ?_⟩ | refine ⟨⟨_, rfl, Wk.junk _⟩, ?_⟩)) (by repeat (first | exact trivial | refine ⟨rfl, ?_⟩ | exact LH.fam | refine LH.skip (by decide) ?_)) rfl)
     ·simp [S.nat, fnd]; omega
   ·obtain rfl : k = n := by omega
    rw [← hkept] at hP
    have hTs : T.states = P := by rw [hT, hP]
    have hTt : T.start = pl kept st := by rw [hT]
    rw [hTs, hTt]
    refine AW.seq ?_
    refine AW.region ?_
    (refine AL.rp rfl rfl (rp_lssF rfl rfl rfl (by first | assumption | omega | (dsimp only; omega))) ?_)
    refine AL.nil ?_
    try simp only [thenS, S.put, List.nil_append, List.cons_append]
    refine AW.seq ?_
    refine AW.condF rfl ?_
    refine AW.exit ?_
    try simp only [thenS, inBlockS, ↓reduceIte, Nat.reduceEqDiff, List.nil_append, List.cons_append]
    refine AW.seq ?_
    refine AW.region ?_
    refine AL.rd rfl rfl (rd_loads_ref Try.underlying24 rfl inf24 rfl rfl rfl rfl rfl rfl) ?_
    refine AL.st rfl (st_store_any inf24 rfl rfl rfl rfl rfl rfl rfl rfl (by first | decide | (simp; done) | (simp; omega)) rfl) ?_
    refine AL.rp rfl rfl (rp_assign rfl rfl) ?_
    refine AL.nil ?_
    try simp only [thenS, S.put, S.newObj, setL, V.cs, List.length_cons, List.length_nil, List.take_succ_cons, List.take_zero, List.drop_succ_cons, List.drop_zero, List.drop_nil, List.nil_append, List.cons_append, List.append_nil, Nat.zero_add, Nat.reduceAdd, List.map_cons, List.map_nil, List.set_cons_zero, List.set_cons_succ]
    refine AW.ret ?_
    exact ⟨[_, _], (901, ⟨52, FS.cells 1000 P, decide (P.length = 0), 2⟩) :: FS.objs 1000 P, ⟨⟨2, 0, _, _, rfl, rfl, rfl, Try.underlying24, .inr ⟨rfl, _, _, _, _, inf24, rfl, rfl, rfl⟩⟩, rfl, trivial⟩, ⟨rfl, by repeat (first | exact trivial | refine ⟨rfl, ?_⟩ | exact LH.fam | refine LH.skip (by decide) ?_)⟩, ⟨rfl, rfl⟩, by simp [tupOf, V.has, V.hasL], fam_closed rfl⟩
end Go.Proofs.Ytjbldphpkkmdpaa
