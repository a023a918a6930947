/- Rows of growing slices are begun, get one element more, and become plain data. -/
import Derived.Test.YthlcginebeapdaaAmGr
namespace Go.Proofs.Ythlcginebeapdaa
open Go.RowKit
set_option linter.unusedSimpArgs false
set_option linter.unusedVariables false

section
variable {β : Type} {F : Fam β} {c : Cx} {s : S} {Q : Exit → S → Prop}

theorem Fam.adopt_get (F : Fam β) : ∀ (l : List β) (k j : Nat) (v' : V), (∀ x ∈ l, F.it x = []) → (F.cells k l)[j]? = some v' → ∃ v, (l.flatMap fun x => (F.pre x).map V.d ++ [V.nil])[j]? = some v ∧ (v' = v ∧ (∀ r, v.has r = false) ∨ ∃ k', v' = .own k' F.sz 0 true ∧ v = .nil)
  | [], k, j, v', hl, h => by simp [Fam.cells] at h
  | x :: l, k, j, v', hl, h => by
    have hx : F.ownV k x = .own k F.sz 0 true := by simp [Fam.ownV, hl x (by simp)]
    simp only [Fam.cells, hx] at h
    rw [List.flatMap_cons, List.append_assoc]
    by_cases hj : j < (F.pre x).length
    · rw [List.getElem?_append_left (by simpa using hj)] at h ⊢
      refine ⟨v', h, .inl ⟨rfl, ?_⟩⟩
      rw [List.getElem?_map] at h
      cases hd : (F.pre x)[j]? with
      | none => rw [hd] at h; cases h
      | some d => rw [hd] at h; simp at h; subst h; intro r; rfl
    · rw [List.getElem?_append_right (by simp; omega)] at h ⊢
      simp only [List.length_map] at h ⊢
      cases hjm : j - (F.pre x).length with
      | zero =>
        rw [hjm] at h
        simp at h
        subst h
        exact ⟨_, rfl, .inr ⟨k, rfl, rfl⟩⟩
      | succ i =>
        rw [hjm, List.getElem?_cons_succ] at h
        simpa using Fam.adopt_get F l (k + 1) i v' (fun y hy => hl y (by simp [hy])) h

/-- The row's slices, none of which has an element yet, may grow from now on. -/
theorem AW.famAdopt {code : Code} (F : Fam β) (base rb : Nat) (L : List β) {row : Row} (hr : fnd s.H rb = some row) (hn : row.nil = false) (hc : row.cells = L.flatMap fun x => (F.pre x).map V.d ++ [V.nil]) (hL : ∀ x ∈ L, F.it x = []) (hlow : s.H.all (fun x => decide (x.1 < base)) = true)
    (h : AW c code Q ⟨s.n, s.T, (rb, { row with cells := F.cells base L }) :: s.H ++ F.objs base L, s.K⟩) : AW c code Q s := fun g a w hs => h _ a w (hs.conv id rfl
  (fun i v hv => ⟨v, hv, .same v fun _ _ => rfl⟩)
  (fun r row' hr' => by
    have hr' : fnd ((rb, { row with cells := F.cells base L }) :: (s.H ++ F.objs base L)) r = some row' := hr'
    rw [fnd] at hr'
    by_cases e : rb = r
    · subst e
      rw [if_pos (by simp)] at hr'
      have hr' := Option.some.inj hr'
      subst hr'
      refine .inr ⟨hn, row, hr, hn, rfl, rfl, fun j v' hv => ?_⟩
      obtain ⟨v, h1, h2⟩ := Fam.adopt_get F L base j v' hL hv
      refine ⟨v, by rw [hc]; exact h1, ?_⟩
      rcases h2 with ⟨rfl, h2⟩ | ⟨k', rfl, rfl⟩
      · exact .same _ fun _ _ => rfl
      · exact .nil _ _
    · rw [if_neg (by simpa using e), fnd_app] at hr'
      cases hl : fnd s.H r with
      | some row2 =>
        rw [hl] at hr'
        have hr' := Option.some.inj hr'
        subst hr'
        cases hnn : row2.nil with
        | true => exact .inl ⟨rfl, hs.nul r row2 hl hnn⟩
        | false => exact .inr ⟨rfl, row2, hl, hnn, rfl, rfl, fun j v hv => ⟨v, hv, .same v fun _ _ => rfl⟩⟩
      | none =>
        rw [hl] at hr'
        obtain ⟨p, x, rfl, hx, rfl⟩ := Fam.objs_inv hr'
        exact .inl (by simp [Fam.row, hL x (List.mem_of_getElem? hx)]))
  (fun j v hv => ⟨v, hv, .same v fun _ _ => rfl⟩)
  (fun _ _ _ _ _ _ _ _ e => e))

theorem Fam.data_len {m : Nat} (hm : ∀ x, (F.pre x).length = m) (x : β) : (F.data x).length = m + 1 := by simp [Fam.data, hm]
theorem Fam.data_get (F : Fam β) {m : Nat} (hm : ∀ x, (F.pre x).length = m) : ∀ (l : List β) (k j : Nat) (v' : V), (l.flatMap fun x => (F.data x).map V.d)[j]? = some v' → ∃ v, (F.cells k l)[j]? = some v ∧ (v' = v ∧ (∀ r, v.has r = false) ∨ ∃ p x, l[p]? = some x ∧ v' = .d (.sl F.sz F.bt (F.it x)) ∧ v = F.ownV (k + p) x)
  | [], k, j, v', h => by simp at h
  | x :: l, k, j, v', h => by
    rw [List.flatMap_cons] at h
    simp only [Fam.cells, Fam.data, List.map_append, List.append_assoc] at h ⊢
    by_cases hj : j < m
    · rw [List.getElem?_append_left (by simpa [hm] using hj)] at h ⊢
      refine ⟨v', h, .inl ⟨rfl, ?_⟩⟩
      rw [List.getElem?_map] at h
      cases hd : (F.pre x)[j]? with
      | none => rw [hd] at h; cases h
      | some d => rw [hd] at h; simp at h; subst h; intro r; rfl
    · rw [List.getElem?_append_right (by simp [hm]; omega)] at h ⊢
      simp only [List.length_map, hm] at h ⊢
      cases hjm : j - m with
      | zero =>
        rw [hjm] at h
        simp at h
        subst h
        exact ⟨_, rfl, .inr ⟨0, x, rfl, rfl, rfl⟩⟩
      | succ i =>
        rw [hjm] at h
        simp only [List.map_cons, List.map_nil, List.cons_append, List.nil_append, List.getElem?_cons_succ] at h
        obtain ⟨v, h1, h2⟩ := Fam.data_get F hm l (k + 1) i v' (by simpa [Fam.data] using h)
        refine ⟨v, by simpa using h1, ?_⟩
        rcases h2 with h2 | ⟨p, y, h3, h4, h5⟩
        · exact .inl h2
        · exact .inr ⟨p + 1, y, by simpa using h3, h4, by rw [h5, show k + 1 + p = k + (p + 1) by omega]⟩
theorem flat_get {rows : List (List D)} {sz : Nat} (hr : ∀ l ∈ rows, l.length = sz) : ∀ (i j : Nat) (l : List D) (u : D), rows[i]? = some l → l[j]? = some u → (rows.flatten.map V.d)[i * sz + j]? = some (.d u) := by
  induction rows with
  | nil => intro i j l u h; simp at h
  | cons y rows ih =>
    intro i j l u h1 h2
    have hy := hr y (by simp)
    rw [List.flatten_cons, List.map_append]
    cases i with
    | zero =>
      simp at h1
      subst h1
      have hj := (List.getElem?_eq_some_iff.1 h2).1
      rw [Nat.zero_mul, Nat.zero_add, List.getElem?_append_left (by simpa using hj)]
      simp [h2]
    | succ i =>
      rw [List.getElem?_append_right (by simp [hy]; rw [Nat.succ_mul]; omega)]
      simp only [List.length_map, hy]
      rw [show (i + 1) * sz + j - sz = i * sz + j by rw [Nat.succ_mul]; omega]
      exact ih (fun l hl => hr l (by simp [hl])) i j l u (by simpa using h1) h2

/-- The row and all its slices become plain data. -/
theorem AW.famFreeze {code : Code} (lits : List (Nat × Row)) (rb : Nat) {m base : Nat} {L : List β} {row : Row} (hH : s.H = lits ++ F.objs base L) (hr : fnd lits rb = some row) (hn : row.nil = false) (hc : row.cells = F.cells base L) (hm : ∀ x, (F.pre x).length = m) (hrow : ∀ x, ∀ l ∈ F.it x, l.length = F.sz) (hbt : ∀ x ∈ L, (F.it x).length * F.bt ≤ 140737488355328) (hlow : lits.all (fun x => decide (x.1 < base)) = true)
    (hlo : ∀ x ∈ lits, x.1 ≠ rb → ∀ r, base ≤ r → V.hasL r x.2.cells = false) (hT : s.T.all (fun x => x.2.low base) = true) (hK : V.lowL base s.K = true)
    (h : AW c code Q ⟨s.n, s.T, (rb, { row with cells := L.flatMap fun x => (F.data x).map V.d }) :: lits, s.K⟩) : AW c code Q s := fun g a w hs => h _ a w (hs.conv id rfl
  (fun i v hv => ⟨v, hv, .same v fun _ _ => rfl⟩)
  (fun r row' hr' => by
    have hr' : fnd ((rb, { row with cells := L.flatMap fun x => (F.data x).map V.d }) :: lits) r = some row' := hr'
    rw [fnd] at hr'
    by_cases e : rb = r
    · subst e
      rw [if_pos (by simp)] at hr'
      have hr' := Option.some.inj hr'
      subst hr'
      refine .inr ⟨hn, row, by show fnd s.H rb = _; rw [hH, fnd_app, hr], hn, rfl, rfl, fun j v' hv => ?_⟩
      obtain ⟨v, h1, h2⟩ := Fam.data_get F hm L base j v' hv
      refine ⟨v, by rw [hc]; exact h1, ?_⟩
      rcases h2 with ⟨rfl, h2⟩ | ⟨p, x, h3, rfl, rfl⟩
      · exact .same _ fun _ _ => rfl
      · have hfr : fnd s.H (base + p) = some (F.row x) := by rw [hH, fnd_app, fnd_low hlow (by omega), Fam.objs_get, h3]; rfl
        refine .frz (base + p) F.sz _ F.bt _ _ _ hfr rfl rfl (hbt x (List.mem_of_getElem? h3)) (flat_get (hrow x)) ?_
        intro k row2 hk hk2 e
        have hk : fnd ((rb, { row with cells := L.flatMap fun x => (F.data x).map V.d }) :: lits) k = some row2 := hk
        simp only [id] at e
        subst e
        have hrbl : rb < base := by have := List.all_eq_true.1 hlow _ (fnd_mem hr); simpa using this
        rw [fnd, if_neg (by simp; omega), fnd_low hlow (by omega)] at hk
        cases hk
    · rw [if_neg (by simpa using e)] at hr'
      have h1 : fnd s.H r = some row' := by rw [hH, fnd_app, hr']
      cases hnn : row'.nil with
      | true => exact .inl ⟨rfl, hs.nul r row' h1 hnn⟩
      | false => exact .inr ⟨rfl, row', h1, hnn, rfl, rfl, fun j v hv => ⟨v, hv, .same v fun _ _ => rfl⟩⟩)
  (fun j v hv => ⟨v, hv, .same v fun _ _ => rfl⟩)
  (fun _ _ _ _ _ _ _ _ e => e))

/-- The row has got an element more, whose slice z was the call's own: it goes to the others. -/
theorem AW.famPush {code : Code} (lits : List (Nat × Row)) (rb z : Nat) (x : β) {base : Nat} {L : List β} {row : Row} (hH : s.H = lits ++ F.objs base L) (hr : fnd lits rb = some row) (hn : row.nil = false) (hz : fnd lits z = some (F.row x)) (hc : row.cells = F.cells base L ++ ((F.pre x).map V.d ++ [.own z F.sz (F.it x).length (F.it x).isEmpty])) (hzr : z ≠ rb) (hlow : lits.all (fun x => decide (x.1 < base)) = true)
    (hlo : ∀ x ∈ lits, x.1 ≠ rb → V.hasL z x.2.cells = false) (hT : s.T.all (fun x => !x.2.has z) = true) (hK : V.hasL z s.K = false) (hlo2 : ∀ x ∈ lits, x.1 ≠ rb → ∀ r, base ≤ r → V.hasL r x.2.cells = false) (hT2 : s.T.all (fun x => x.2.low base) = true) (hK2 : V.lowL base s.K = true)
    (h : AW c code Q ⟨s.n, s.T, (rb, { row with cells := F.cells base (L ++ [x]) }) :: lits.filter (fun x => x.1 != z) ++ F.objs base (L ++ [x]), s.K⟩) : AW c code Q s := fun g a w hs => by
  have hzb : z < base := by have := List.all_eq_true.1 hlow _ (fnd_mem hz); simpa using this
  have hrbb : rb < base := by have := List.all_eq_true.1 hlow _ (fnd_mem hr); simpa using this
  have hρ : ∀ v : V, v.has (base + L.length) = false → ∀ r, v.has r = true → (if r = base + L.length then z else r) = r := by
    intro v hv r hr
    rw [if_neg]
    rintro rfl
    rw [hv] at hr; cases hr
  have hfo : ∀ r row', fnd ((rb, { row with cells := F.cells base (L ++ [x]) }) :: (lits.filter (fun x => x.1 != z) ++ F.objs base (L ++ [x]))) r = some row' →
      r = rb ∧ row' = { row with cells := F.cells base (L ++ [x]) } ∨ (r ≠ rb ∧ r ≠ z ∧ r < base ∧ fnd lits r = some row') ∨ ∃ p y, r = base + p ∧ L[p]? = some y ∧ row' = F.row y ∨ r = base + L.length ∧ row' = F.row x := by
    intro r row' hr'
    rw [fnd] at hr'
    by_cases e : rb = r
    · subst e
      rw [if_pos (by simp)] at hr'
      exact .inl ⟨rfl, (Option.some.inj hr').symm⟩
    · rw [if_neg (by simpa using e), fnd_app] at hr'
      have e := Ne.symm e
      cases hl : fnd (lits.filter (fun x => x.1 != z)) r with
      | some row2 =>
        rw [hl] at hr'
        have hr' := Option.some.inj hr'
        subst hr'
        by_cases ez : r = z
        · subst ez; rw [fnd_filter_self] at hl; cases hl
        · rw [fnd_filter _ _ _ ez] at hl
          refine .inr (.inl ⟨e, ez, ?_, hl⟩)
          have := List.all_eq_true.1 hlow _ (fnd_mem hl)
          simpa using this
      | none =>
        rw [hl] at hr'
        obtain ⟨p, y, rfl, hy, rfl⟩ := Fam.objs_inv hr'
        rw [List.getElem?_append] at hy
        split at hy
        · exact .inr (.inr ⟨p, y, .inl ⟨rfl, hy, rfl⟩⟩)
        · rename_i hpl
          cases hpp : p - L.length with
          | zero =>
            rw [hpp] at hy
            simp at hy
            subst hy
            exact .inr (.inr ⟨p, x, .inr ⟨by omega, rfl⟩⟩)
          | succ i => rw [hpp] at hy; simp at hy
  have hlitfnd : ∀ r row', fnd lits r = some row' → fnd s.H r = some row' := fun r row' hr' => by rw [hH, fnd_app, hr']
  have hobj : ∀ p y, L[p]? = some y → fnd s.H (base + p) = some (F.row y) := fun p y hy => by rw [hH, fnd_app, fnd_low hlow (by omega), Fam.objs_get, hy]; rfl
  refine h _ a w (hs.conv (fun k => if k = base + L.length then z else k) rfl ?_ ?_ ?_ ?_)
  · intro i v hv
    refine ⟨v, hv, .same v (hρ v ?_)⟩
    have := List.all_eq_true.1 hT2 _ (fnd_mem hv)
    exact V.low_has (by omega) v this
  · intro r row' hr'
    rcases hfo r row' hr' with ⟨rfl, rfl⟩ | ⟨e1, e2, e3, h1⟩ | ⟨p, y, ⟨rfl, hy, rfl⟩ | ⟨rfl, rfl⟩⟩
    · refine .inr ⟨hn, row, ?_, hn, rfl, rfl, fun j v' hv => ?_⟩
      · rw [if_neg (by omega)]; exact hlitfnd _ _ hr
      · simp only at hv
        rw [Fam.cells_app] at hv
        rw [hc]
        have hz' : (F.cells base L ++ ((F.pre x).map V.d ++ [F.ownV (base + L.length) x]))[j]? = some v' := hv
        by_cases hj : j < (F.cells base L).length
        · rw [List.getElem?_append_left hj] at hz' ⊢
          refine ⟨v', hz', .same v' (hρ v' ?_)⟩
          cases hh : v'.has (base + L.length) with
          | false => rfl
          | true =>
            exfalso
            -- no element stands there
            have : ∀ (l : List β) (k : Nat) (v : V), v ∈ F.cells k l → v.has (k + l.length) = true → False := by
              intro l
              induction l with
              | nil => intro k v hv; simp [Fam.cells] at hv
              | cons y l ih =>
                intro k v hv hk
                simp only [Fam.cells, List.mem_append, List.mem_map, List.mem_cons] at hv
                rcases hv with ⟨d, _, rfl⟩ | rfl | hv
                · simp [V.has] at hk
                · simp [Fam.ownV, V.has] at hk
                · exact ih (k + 1) v hv (by rw [show k + 1 + l.length = k + (y :: l).length by simp; omega]; exact hk)
            exact this L base v' (List.mem_of_getElem? hz') hh
        · rw [List.getElem?_append_right (by omega)] at hz' ⊢
          by_cases hj2 : j - (F.cells base L).length < (F.pre x).length
          · rw [List.getElem?_append_left (by simpa using hj2)] at hz' ⊢
            refine ⟨v', hz', .same v' (hρ v' ?_)⟩
            rw [List.getElem?_map] at hz'
            cases hd : (F.pre x)[j - (F.cells base L).length]? with
            | none => rw [hd] at hz'; cases hz'
            | some d => rw [hd] at hz'; simp at hz'; subst hz'; rfl
          · rw [List.getElem?_append_right (by simp; omega)] at hz' ⊢
            generalize j - (F.cells base L).length - ((F.pre x).map V.d).length = i at hz' ⊢
            cases i with
            | zero =>
              simp at hz'
              subst hz'
              refine ⟨_, rfl, ?_⟩
              have := Cv.own (s := s) (s' := ⟨s.n, s.T, (r, { row with cells := F.cells base (L ++ [x]) }) :: lits.filter (fun x => x.1 != z) ++ F.objs base (L ++ [x]), s.K⟩) (ρ := fun k => if k = base + L.length then z else k) (base + L.length) F.sz (F.it x).length (F.it x).isEmpty
              simpa [Fam.ownV] using this
            | succ i => simp at hz'
    · have h2 := hlitfnd _ _ h1
      cases hnn : row'.nil with
      | true => exact .inl ⟨rfl, hs.nul r row' h2 hnn⟩
      | false =>
        refine .inr ⟨rfl, row', by rw [if_neg (by omega)]; exact h2, hnn, rfl, rfl, fun j v hv => ⟨v, hv, .same v (hρ v ?_)⟩⟩
        exact V.hasL_false.1 (hlo2 _ (fnd_mem h1) e1 _ (by omega)) v (List.mem_of_getElem? hv)
    · have hpl := (List.getElem?_eq_some_iff.1 hy).1
      have h2 := hobj p y hy
      cases hnn : (F.row y).nil with
      | true => exact .inl ⟨rfl, hs.nul _ _ h2 hnn⟩
      | false =>
        refine .inr ⟨rfl, _, by rw [if_neg (by omega)]; exact h2, hnn, rfl, rfl, fun j v hv => ⟨v, hv, .same v (hρ v ?_)⟩⟩
        exact V.hasL_false.1 (F.row_hasL y _) v (List.mem_of_getElem? hv)
    · have h2 := hlitfnd _ _ hz
      cases hnn : (F.row x).nil with
      | true => exact .inl ⟨rfl, hs.nul _ _ h2 hnn⟩
      | false =>
        refine .inr ⟨rfl, _, by rw [if_pos rfl]; exact h2, hnn, rfl, rfl, fun j v hv => ⟨v, hv, .same v (hρ v ?_)⟩⟩
        exact V.hasL_false.1 (F.row_hasL x _) v (List.mem_of_getElem? hv)
  · intro j v hv
    exact ⟨v, hv, .same v (hρ v (V.low_has (b := base) (by omega) v (by
      have : ∀ (l : List V), V.lowL base l = true → ∀ u ∈ l, u.low base = true := by
        intro l
        induction l with
        | nil => intro _ u hu; cases hu
        | cons y l ih =>
          intro hl u hu
          simp only [V.lowL, Bool.and_eq_true] at hl
          rcases List.mem_cons.1 hu with rfl | hu
          · exact hl.1
          · exact ih hl.2 u hu
      exact this _ hK2 v (List.mem_of_getElem? hv))))⟩
  · intro r r' row1 row2 h1 n1 h2 n2 e
    rcases hfo r row1 h1 with ⟨rfl, _⟩ | ⟨a1, a2, a3, _⟩ | ⟨p, y, ⟨rfl, hy, _⟩ | ⟨rfl, _⟩⟩ <;> rcases hfo r' row2 h2 with ⟨rfl, _⟩ | ⟨b1, b2, b3, _⟩ | ⟨p', y', ⟨rfl, hy', _⟩ | ⟨rfl, _⟩⟩ <;>
      (try have hpl := (List.getElem?_eq_some_iff.1 hy).1) <;> (try have hpl' := (List.getElem?_eq_some_iff.1 hy').1) <;> (try dsimp only at e) <;> (try split at e) <;> (try split at e) <;> omega
end

theorem LH.self {n : Nat} {T : List (Nat × V)} {H : List (Nat × Row)} {K : List V} (hk : ∀ r row, fnd H r = some row → True) : ∀ {l : List (Nat × Row)}, (∀ i row, (i, row) ∈ l → fnd H i = some row) → LH ⟨n, T, H, K⟩ l
  | [], _ => trivial
  | (i, row) :: l, h => ⟨h i row (by simp), LH.self hk fun j r hj => h j r (by simp [hj])⟩
theorem Fam.objs_mem {β : Type} {F : Fam β} : ∀ (l : List β) (k i : Nat) (row : Row), (i, row) ∈ F.objs k l → k ≤ i ∧ fnd (F.objs k l) i = some row
  | [], k, i, row, h => by simp [Fam.objs] at h
  | x :: l, k, i, row, h => by
    simp only [Fam.objs, List.mem_cons, Prod.mk.injEq] at h
    rcases h with ⟨rfl, rfl⟩ | h
    · exact ⟨Nat.le_refl _, by simp [Fam.objs, fnd]⟩
    · obtain ⟨h1, h2⟩ := Fam.objs_mem l (k + 1) i row h
      refine ⟨by omega, ?_⟩
      rw [Fam.objs, fnd, if_neg (by simp; omega), h2]
/-- A state's growing slices are among another's. -/
theorem LH.fam {β : Type} {F : Fam β} {n base : Nat} {L : List β} {T : List (Nat × V)} {K : List V} : LH ⟨n, T, F.objs base L, K⟩ (F.objs base L) := LH.self (fun _ _ _ => trivial) fun i row h => (Fam.objs_mem L base i row h).2
theorem LH.skip {β : Type} {F : Fam β} {n base r : Nat} {L : List β} {row : Row} {T : List (Nat × V)} {H : List (Nat × Row)} {K : List V} (hr : r < base) (h : LH ⟨n, T, H, K⟩ (F.objs base L)) : LH ⟨n, T, (r, row) :: H, K⟩ (F.objs base L) := by
  refine LH.self (fun _ _ _ => trivial) fun i row' hm => ?_
  have h1 := (Fam.objs_mem L base i row' hm).1
  rw [fnd, if_neg (by simp; omega)]
  have : ∀ (l : List (Nat × Row)), LH ⟨n, T, H, K⟩ l → ∀ i row, (i, row) ∈ l → fnd H i = some row := by
    intro l
    induction l with
    | nil => intro _ i row h; cases h
    | cons x l ih =>
      intro hl i row hm
      rcases List.mem_cons.1 hm with e | hm
      · subst e; exact hl.1
      · exact ih hl.2 i row hm
  exact this _ h i row' hm
theorem flat_rep_get {α : Type} {zs : List α} (h0 : 0 < zs.length) : ∀ (n j : Nat), j < n * zs.length → ((List.replicate n zs).flatten)[j]? = zs[j % zs.length]?
  | 0, j, h => by simp at h
  | n + 1, j, h => by
    rw [List.replicate_succ, List.flatten_cons]
    by_cases hj : j < zs.length
    · rw [List.getElem?_append_left hj, Nat.mod_eq_of_lt hj]
    · rw [List.getElem?_append_right (by omega), flat_rep_get h0 n (j - zs.length) (by rw [Nat.succ_mul] at h; omega)]
      rw [Nat.mod_eq_sub_mod (a := j) (by omega)]
theorem flatMap_rep {α γ : Type} (n : Nat) (x : α) (f : α → List γ) : (List.replicate n x).flatMap f = (List.replicate n (f x)).flatten := by
  induction n with
  | zero => rfl
  | succ n ih => simp [List.replicate_succ, ih]
/-- make, of a slice whose elements have several cells. -/
theorem sm_makeN (r : Nat) {c : Cx} {s : S} {o : Oper} {t e : TypeId} {sz bt n : Nat} {z : Value} {x : Operand} {n' : Int} {zs : List V} (hu : c.P.underlying t = some (.slice e)) (hi : Inf c.P e sz bt z) (hzs : z.cells.toList.map (fun y => V.d (.p y)) = zs) (hzl : zs.length = sz) (hsz : 0 < sz) (ho : o.op = .makeSlice t x x) (hx : s.ev x = some (.i n')) (hn : n' = (n : Int)) (hb : n ≤ 1000000) (hbt : bt ≤ 64) (hr : s.clean r = true) (hd : dok s o = true) :
    StepM c o s (fun s' => s' = s.newObj r ⟨e, (List.replicate n zs).flatten, false, sz⟩ o.dst (.own r sz n false)) :=
  sm_new (cap := n) hr rfl (by
    rw [V.hasL_false]
    intro v hv
    simp only [List.mem_flatten, List.mem_replicate] at hv
    obtain ⟨l, ⟨_, rfl⟩, hv⟩ := hv
    rw [← hzs] at hv
    simp only [List.mem_map] at hv
    obtain ⟨y, _, rfl⟩ := hv
    rfl) hd (fun g a w hs => by
    subst hn
    obtain ⟨i, hi1, hi2, hi3, hi4⟩ := hi.out
    have hmul : (i.bytes : Int) * (n : Int) ≤ 281474976710656 := by
      rw [hi3]
      have : (bt : Int) * (n : Int) ≤ 64 * (n : Int) := Int.mul_le_mul_of_nonneg_right (by omega) (by omega)
      omega
    have hrun := run_make (P := c.P) w t e i z hu hi1 hi4 .i64 .i64 n n (by omega) (by omega) hmul (by omega)
    simp only [Int.toNat_natCast, hi2] at hrun
    have hzc : z.cells.size = sz := by rw [← hzl, ← hzs]; simp
    refine ⟨madeCells z.cells (n * sz), .slice (some ⟨w.heap.size, 0, none⟩) n n, by simp [madeCells], ?_, fun j u hu => ?_, ?_⟩
    · simp [execOp, ho, VRep.p_eq (hs.ev hx), hrun]
    · have hlen : ((List.replicate n zs).flatten).length = n * sz := by simp [hzl]
      have hj : j < n * sz := by rw [← hlen]; exact (List.getElem?_eq_some_iff.1 hu).1
      rw [flat_rep_get (by omega) n j (by rw [hzl]; exact hj), hzl, ← hzs] at hu
      have hjm : j % sz < z.cells.size := by rw [hzc]; exact Nat.mod_lt _ hsz
      rw [List.getElem?_map] at hu
      have h1 : z.cells.toList[j % sz]? = some z.cells[j % sz] := by simp [hjm]
      rw [h1] at hu
      simp only [Option.map_some, Option.some.injEq] at hu
      subst hu
      refine ⟨z.cells[j % sz], ?_, .d _ _ (.p _)⟩
      simp only [madeCells, Array.getElem?_map, hzc]
      rw [Array.getElem?_eq_getElem (by simpa using hj)]
      simp [hjm]
    · exact VRep.own (g := fun _ => (w.heap.size, n)) _ _ _ (Nat.le_refl _) (by simp only [maxLen]; omega)) ⟨0, .inr ⟨_, _, rfl⟩⟩
theorem low_ownV {β : Type} (F : Fam β) (b p : Nat) (x : β) : (F.ownV (b + p) x).low b = false := by simp [Fam.ownV, V.low]
theorem has_ownV {β : Type} (F : Fam β) (k r : Nat) (x : β) : (F.ownV k x).has r = (k == r) := rfl
theorem objs_clean_low {β : Type} (F : Fam β) {l : List β} {k r : Nat} (h : r < k) : (F.objs k l).all (fun x => x.1 != r && !V.hasL r x.2.cells) = true := Fam.objs_clean l k r h
theorem objs_filter_low {β : Type} (F : Fam β) {l : List β} {k r : Nat} (h : r < k) : (F.objs k l).filter (fun x => x.1 != r) = F.objs k l := Fam.objs_filter l k r h
theorem cells_hasL_low {β : Type} (F : Fam β) {l : List β} {k r : Nat} (h : r < k) : V.hasL r (F.cells k l) = false := Fam.cells_hasL l k r h
theorem nb1 {a b p : Nat} (h : a < b) : (a = b + p) = False := by simp; omega
theorem nb2 {a b p : Nat} (h : a < b) : (b + p = a) = False := by simp; omega
theorem nb3 {a b p : Nat} (h : a < b) : (a == b + p) = false := by simp; omega
theorem nb4 {a b p : Nat} (h : a < b) : (b + p == a) = false := by simp; omega
theorem hasL_frep {r n : Nat} {zs : List V} (h : V.hasL r zs = false) : V.hasL r (List.replicate n zs).flatten = false := by
  induction n with
  | zero => rfl
  | succ n ih => rw [List.replicate_succ, List.flatten_cons, hasL_append, h, ih]; rfl
end Go.Proofs.Ythlcginebeapdaa
