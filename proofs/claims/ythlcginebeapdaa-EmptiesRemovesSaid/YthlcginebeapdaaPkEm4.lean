/- Part 4 of what the law EmptiesRemoves rests on. -/
import Derived.Scope
import Derived.Test.YthlcginebeapdaaPkEm1
import Derived.Test.YthlcginebeapdaaPkEm2
import Derived.Test.YthlcginebeapdaaPkEm3
namespace Go.Proofs.Ythlcginebeapdaa
open Go.RowKit
set_option linter.unusedSimpArgs false
set_option linter.unusedVariables false

section
variable (Init : Nat → Prop) (Edge : Nat → Nat → Prop)

inductive Rch : Nat → Prop
  | init (q : Nat) (h : Init q) : Rch q
  | step (q p : Nat) (h : Rch q) (e : Edge q p) : Rch p

def Just (L : List Bool) (x : Nat) : Prop := Init x ∨ ∃ y, L[y]? = some true ∧ Edge y x
def SoundL (L : List Bool) : Prop := ∀ x, L[x]? = some true → Rch Init Edge x
def ClosedL (L : List Bool) : Prop := ∀ x, x < L.length → Just Init Edge L x → L[x]? = some true
open Classical in
noncomputable def rchL (n : Nat) : List Bool := (List.range n).map fun q => decide (Rch Init Edge q)

variable {Init : Nat → Prop} {Edge : Nat → Nat → Prop} {L : List Bool} {n : Nat}

theorem rchL_len : (rchL Init Edge n).length = n := by simp [rchL]
theorem rchL_get {q : Nat} (hq : q < n) : (rchL Init Edge n)[q]? = some true ↔ Rch Init Edge q := by
  simp [rchL, List.getElem?_map, List.getElem?_range hq]
/-- Sound and closed: it is the set. (Nothing outside is reached from inside.) -/
theorem rch_done (hl : L.length = n) (hin : ∀ x, Rch Init Edge x → x < n) (hs : SoundL Init Edge L) (hc : ClosedL Init Edge L) : L = rchL Init Edge n := by
  have hR : ∀ x, Rch Init Edge x → L[x]? = some true := by
    intro x hx
    induction hx with
    | init q h => exact hc q (by rw [hl]; exact hin q (.init q h)) (.inl h)
    | step q p h e ih => exact hc p (by rw [hl]; exact hin p (.step q p h e)) (.inr ⟨q, ih, e⟩)
  refine List.ext_getElem? fun q => ?_
  by_cases hq : q < n
  · have h1 := rchL_get (Init := Init) (Edge := Edge) hq
    have hlt : q < L.length := by omega
    have hlt' : q < (rchL Init Edge n).length := by rw [rchL_len]; exact hq
    rw [List.getElem?_eq_getElem hlt, List.getElem?_eq_getElem hlt'] at *
    have h2 : L[q] = true → Rch Init Edge q := fun h => hs q (by rw [List.getElem?_eq_getElem hlt, h])
    have h3 : Rch Init Edge q → L[q] = true := fun h => by have := hR q h; rw [List.getElem?_eq_getElem hlt] at this; simpa using this
    have h4 : (rchL Init Edge n)[q] = true ↔ Rch Init Edge q := by simpa using h1
    congr 1
    cases h5 : L[q] <;> cases h6 : (rchL Init Edge n)[q]
    · rfl
    · exact absurd (h3 (h4.1 h6)) (by simp [h5])
    · exact absurd (h4.2 (h2 h5)) (by simp [h6])
    · rfl
  · rw [List.getElem?_eq_none (by omega), List.getElem?_eq_none (by rw [rchL_len]; omega)]

theorem set_true_get {x y : Nat} (h : L[y]? = some true) : (L.set x true)[y]? = some true := by
  rw [List.getElem?_set]
  split
  · rename_i e
    subst e
    rw [if_pos (List.getElem?_eq_some_iff.1 h).1]
  · exact h
theorem set_true_inv {x y : Nat} (h : (L.set x true)[y]? = some true) : y = x ∨ L[y]? = some true := by
  rw [List.getElem?_set] at h
  split at h
  · rename_i e; exact .inl e.symm
  · exact .inr h
theorem set_same {x : Nat} (h : L[x]? = some true) : L.set x true = L := by
  refine List.ext_getElem? fun y => ?_
  rw [List.getElem?_set]
  split
  · rename_i e
    subst e
    rw [if_pos (List.getElem?_eq_some_iff.1 h).1, h]
  · rfl
theorem count_set : ∀ (L : List Bool) {x : Nat}, L[x]? = some false → (L.set x true).count true = L.count true + 1 ∧ (L.set x true).count false + 1 = L.count false
  | [], x, h => by simp at h
  | b :: L, 0, h => by simp at h; subst h; simp
  | b :: L, x + 1, h => by
    have := count_set L (x := x) (by simpa using h)
    cases b <;> simp <;> omega
theorem sound_set {x : Nat} (hs : SoundL Init Edge L) (hj : Just Init Edge L x) : SoundL Init Edge (L.set x true) := by
  intro y hy
  rcases set_true_inv hy with rfl | h
  · rcases hj with h | ⟨z, h1, h2⟩
    · exact .init _ h
    · exact .step _ _ (hs z h1) h2
  · exact hs y h
/-- In rounds: all is closed, or this round has found one more, or it has found nothing and D is done. -/
def Rnd (Init : Nat → Prop) (Edge : Nat → Nat → Prop) (n k : Nat) (D : List Bool → Prop) (L : List Bool) : Prop := L.length = n ∧ SoundL Init Edge L ∧ (ClosedL Init Edge L ∨ k + 1 ≤ L.count true ∨ k ≤ L.count true ∧ D L)
theorem Rnd.skip {k : Nat} {D D' : List Bool → Prop} (h : Rnd Init Edge n k D L) (hd : D L → D' L) : Rnd Init Edge n k D' L := by
  obtain ⟨h1, h2, h3⟩ := h
  exact ⟨h1, h2, h3.imp_right (Or.imp_right fun h => ⟨h.1, hd h.2⟩)⟩
theorem Rnd.set {k x : Nat} {D D' : List Bool → Prop} (h : Rnd Init Edge n k D L) (hx : x < n) (hj : Just Init Edge L x) (hd : L[x]? = some true → D L → D' L) : Rnd Init Edge n k D' (L.set x true) := by
  obtain ⟨h1, h2, h3⟩ := h
  have hlt : x < L.length := by omega
  by_cases hb : L[x]? = some true
  · rw [set_same hb]
    exact ⟨h1, h2, h3.imp_right (Or.imp_right fun h => ⟨h.1, hd hb h.2⟩)⟩
  · have hf : L[x]? = some false := by
      rw [List.getElem?_eq_getElem hlt] at hb ⊢
      cases h : L[x] <;> simp_all
    have hc := (count_set L hf).1
    refine ⟨by simpa using h1, sound_set h2 hj, .inr (.inl ?_)⟩
    rcases h3 with h3 | h3 | h3
    · exact absurd (h3 x hlt hj) hb
    · omega
    · omega
theorem Rnd.next {k : Nat} {D D' : List Bool → Prop} (h : Rnd Init Edge n k D L) (hd : D L → ClosedL Init Edge L) (h0 : ∀ L, D' L) : Rnd Init Edge n (k + 1) D' L := by
  obtain ⟨h1, h2, h3⟩ := h
  refine ⟨h1, h2, ?_⟩
  rcases h3 with h3 | h3 | h3
  · exact .inl h3
  · exact .inr (.inr ⟨h3, h0 L⟩)
  · exact .inl (hd h3.2)
theorem Rnd.done {k : Nat} {D : List Bool → Prop} (h : Rnd Init Edge n k D L) (hk : n < k) (hin : ∀ x, Rch Init Edge x → x < n) : L = rchL Init Edge n := by
  obtain ⟨h1, h2, h3⟩ := h
  have hc : L.count true ≤ n := by rw [← h1]; exact List.count_le_length
  refine rch_done h1 hin h2 ?_
  rcases h3 with h3 | h3 | h3
  · exact h3
  · omega
  · omega
theorem Rnd.start {D : List Bool → Prop} (h0 : ∀ L, D L) : Rnd Init Edge n 0 D (List.replicate n false) :=
  ⟨by simp, fun x hx => by simp [List.getElem?_replicate] at hx, .inr (.inr ⟨by omega, h0 _⟩)⟩

/-- By a list of what is still to do. -/
structure Fld (Init : Nat → Prop) (Edge : Nat → Nat → Prop) (n : Nat) (X : Nat → Prop) (L : List Bool) (todo : List Nat) : Prop where
  len : L.length = n
  sound : SoundL Init Edge L
  sub : ∀ x ∈ todo, L[x]? = some true
  edge : ∀ x p, L[x]? = some true → x ∉ todo → ¬ X x → Edge x p → p < n → L[p]? = some true
theorem Fld.done {todo : List Nat} {X : Nat → Prop} (h : Fld Init Edge n X L todo) (ht : todo = []) (hX : ∀ x, ¬ X x) (hi : ∀ x, Init x → L[x]? = some true) (hin : ∀ x, Rch Init Edge x → x < n) : L = rchL Init Edge n :=
  rch_done h.len hin h.sound fun x hx hj => by
    rcases hj with hj | ⟨y, h1, h2⟩
    · exact hi x hj
    · exact h.edge y x h1 (by simp [ht]) (hX y) h2 (by rw [← h.len]; exact hx)
/-- The last of the list is taken. -/
theorem Fld.take {todo : List Nat} {q : Nat} (h : Fld Init Edge n (fun _ => False) L (todo ++ [q])) : L[q]? = some true ∧ Fld Init Edge n (fun x => x = q) L todo :=
  ⟨h.sub q (by simp), h.len, h.sound, fun x hx => h.sub x (by simp [hx]), fun x p h1 h2 h3 h4 h5 => h.edge x p h1 (by simp [h2]; exact h3) (by simp) h4 h5⟩
theorem Fld.push {todo : List Nat} {q p : Nat} (h : Fld Init Edge n (fun x => x = q) L todo) (hq : L[q]? = some true) (he : Edge q p) (hp : L[p]? = some false) : Fld Init Edge n (fun x => x = q) (L.set p true) (todo ++ [p]) := by
  have hpn : p < L.length := (List.getElem?_eq_some_iff.1 hp).1
  refine ⟨by simpa using h.len, sound_set h.sound (.inr ⟨q, hq, he⟩), fun x hx => ?_, fun x r h1 h2 h3 h4 h5 => ?_⟩
  · rcases List.mem_append.1 hx with h1 | h1
    · exact set_true_get (h.sub x h1)
    · obtain rfl : x = p := by simpa using h1
      rw [List.getElem?_set_self hpn]
  · have hxp : x ≠ p := by rintro rfl; exact h2 (by simp)
    rcases set_true_inv h1 with e | h1
    · exact absurd e hxp
    · exact set_true_get (h.edge x r h1 (fun hm => h2 (by simp [hm])) h3 h4 h5)
theorem Fld.start {todo : List Nat} (hl : L.length = n) (h1 : ∀ x, L[x]? = some true ↔ x ∈ todo) (h2 : ∀ x ∈ todo, Init x) : Fld Init Edge n (fun _ => False) L todo :=
  ⟨hl, fun x hx => .init x (h2 x ((h1 x).1 hx)), fun x hx => (h1 x).2 hx, fun x p h3 h4 _ _ _ => absurd ((h1 x).1 h3) h4⟩
end

abbrev arV2 (a : Ar) : List V := (arD a).map V.d
abbrev stV2 (s : St) : List V := (stD s).map V.d
abbrev encN (x : Nat) : List D := [.p (.int .i64 (x : Int))]
def bl {α : Type} (g : Nat → α) (n : Nat) : List α := (List.range n).map g
theorem bl_len {α : Type} (g : Nat → α) (n : Nat) : (bl g n).length = n := by simp [bl]
theorem bl_get {α : Type} {g : Nat → α} {n q : Nat} (h : q < n) : (bl g n)[q]? = some (g q) := by simp [bl, List.getElem?_range h]
theorem bl_inv {α : Type} {g : Nat → α} {n q : Nat} {x : α} (h : (bl g n)[q]? = some x) : q < n ∧ x = g q := by
  have hq : q < n := by have := (List.getElem?_eq_some_iff.1 h).1; simpa [bl] using this
  rw [bl_get hq] at h
  exact ⟨hq, by simpa using h.symm⟩
theorem bl_set {α : Type} {g g' : Nat → α} {n p : Nat} {x : α} (h : p < n) (hx : g' p = x) (ho : ∀ q, q < n → q ≠ p → g q = g' q) : (bl g n).set p x = bl g' n := by
  refine List.ext_getElem? fun i => ?_
  rw [List.getElem?_set]
  by_cases e : p = i
  · subst e
    rw [if_pos rfl, if_pos (by rw [bl_len]; exact h), bl_get h, hx]
  · rw [if_neg e]
    by_cases hi : i < n
    · rw [bl_get hi, bl_get hi, ho i hi (Ne.symm e)]
    · rw [List.getElem?_eq_none (by rw [bl_len]; omega), List.getElem?_eq_none (by rw [bl_len]; omega)]
theorem bl_congr {α : Type} {g g' : Nat → α} {n : Nat} (h : ∀ q, q < n → g q = g' q) : bl g n = bl g' n := List.map_congr_left fun q hq => h q (List.mem_range.1 hq)
def stA (sts : List St) (q : Nat) : List Ar := (sts.getD q ⟨0, []⟩).arcs
theorem stA_of {sts : List St} {q : Nat} {x : St} (h : sts[q]? = some x) : stA sts q = x.arcs := by simp [stA, List.getD_eq_getElem?_getD, h]
end Go.Proofs.Ythlcginebeapdaa
namespace Go.Proofs.Ythlcginebeapdaa
open Go.RowKit
set_option linter.unusedSimpArgs false
set_option linter.unusedVariables false

/-- More than any path costs. -/
def big : Nat := 1152921504606846976
theorem big_eq : big = 1152921504606846976 := rfl

section
variable (Init : Nat → Nat → Prop) (Edge : Nat → Nat → Nat → Prop)

inductive Pth : Nat → Nat → Prop
  | init (q d : Nat) (h : Init q d) : Pth q d
  | step (q p d w : Nat) (h : Pth q d) (e : Edge q p w) : Pth p (d + w)

/-- What holds of costs all the time. -/
structure Snd (n : Nat) (L : List Nat) : Prop where
  len : L.length = n
  le : ∀ (q x : Nat), L[q]? = some x → x ≤ big
  path : ∀ (q x : Nat), L[q]? = some x → x < big → Pth Init Edge q x
  init : ∀ (q x d : Nat), L[q]? = some x → Init q d → x ≤ d
/-- The least costs. -/
def Lst (n : Nat) (L : List Nat) : Prop := Snd Init Edge n L ∧ ∀ (q x d : Nat), L[q]? = some x → Pth Init Edge q d → x ≤ d
open Classical in
noncomputable def dst (q : Nat) : Nat := if h : ∃ d, d < big ∧ Pth Init Edge q d then Classical.choose (least_nat h) else big
noncomputable def dstL (n : Nat) : List Nat := (List.range n).map (dst Init Edge)

variable {Init : Nat → Nat → Prop} {Edge : Nat → Nat → Nat → Prop} {n : Nat} {L L' : List Nat}

theorem dst_spec (q : Nat) : dst Init Edge q ≤ big ∧ (dst Init Edge q < big → Pth Init Edge q (dst Init Edge q)) ∧ ∀ d, Pth Init Edge q d → dst Init Edge q ≤ d := by
  unfold dst
  split
  · rename_i h
    obtain ⟨⟨h1, h2⟩, h3⟩ := Classical.choose_spec (least_nat h)
    refine ⟨Nat.le_of_lt h1, fun _ => h2, fun d hd => ?_⟩
    by_cases hb : d < big
    · exact h3 d ⟨hb, hd⟩
    · omega
  · rename_i h
    refine ⟨Nat.le_refl _, fun h => absurd h (by omega), fun d hd => ?_⟩
    by_cases hb : d < big
    · exact absurd ⟨d, hb, hd⟩ h
    · omega
theorem Lst.eq (h : Lst Init Edge n L) : L = dstL Init Edge n := by
  obtain ⟨hs, hm⟩ := h
  refine List.ext_getElem? fun q => ?_
  by_cases hq : q < n
  · obtain ⟨v, e1⟩ : ∃ v, L[q]? = some v := ⟨_, List.getElem?_eq_getElem (by rw [hs.len]; exact hq)⟩
    obtain ⟨d1, d2, d3⟩ := dst_spec (Init := Init) (Edge := Edge) q
    have h1 := hs.le q _ e1
    have : v = dst Init Edge q := by
      by_cases hb : v < big
      · have h2 := d3 _ (hs.path q _ e1 hb)
        have h3 := hm q _ _ e1 (d2 (by omega))
        omega
      · by_cases hb2 : dst Init Edge q < big
        · have h3 := hm q _ _ e1 (d2 hb2)
          omega
        · omega
    rw [e1, this]
    simp [dstL, List.getElem?_range hq]
  · rw [List.getElem?_eq_none (by rw [hs.len]; omega), List.getElem?_eq_none (by simp [dstL]; omega)]

/-- Nothing gets cheaper along an edge: all costs are least. -/
theorem Lst.of_closed (hs : Snd Init Edge n L) (hin : ∀ q p w, Edge q p w → q < n) (hc : ∀ (q p w x y : Nat), Edge q p w → L[q]? = some x → x < big → L[p]? = some y → y ≤ x + w) : Lst Init Edge n L := by
  refine ⟨hs, fun q x d hx hp => ?_⟩
  induction hp generalizing x with
  | init q d h => exact hs.init q x d hx h
  | step q p d w h e ih =>
    have hq := hin q p w e
    have hl : q < L.length := by rw [hs.len]; exact hq
    have e1 : L[q]? = some L[q] := List.getElem?_eq_getElem hl
    have h1 := ih L[q] e1
    by_cases hb : L[q] < big
    · have := hc q p w _ _ e e1 hb hx
      omega
    · have := hs.le p x hx
      omega

/-- A cost gets less along an edge. -/
theorem Snd.set (hs : Snd Init Edge n L) {q p w x : Nat} (e : Edge q p w) (hx : L[q]? = some x) (hb : x < big) (hlt : ∀ y : Nat, L[p]? = some y → x + w < y) : Snd Init Edge n (L.set p (x + w)) := by
  have hpth : Pth Init Edge p (x + w) := .step q p x w (hs.path q x hx hb) e
  refine ⟨by simpa using hs.len, fun r y hy => ?_, fun r y hy hb' => ?_, fun r y d hy hi => ?_⟩
  all_goals
    rw [List.getElem?_set] at hy
    split at hy
    · rename_i er
      subst er
      split at hy
      · rename_i hpl
        simp only [Option.some.injEq] at hy
        subst hy
        have h0 := hlt L[p] (List.getElem?_eq_getElem hpl)
        have h1 := hs.le p _ (List.getElem?_eq_getElem hpl)
        first
          | omega
          | exact hpth
          | (have h2 := hs.init p _ d (List.getElem?_eq_getElem hpl) hi; omega)
      · cases hy
    · first
        | exact hs.le r y hy
        | exact hs.path r y hy hb'
        | exact hs.init r y d hy hi

/-- A cost that cannot get less any more. -/
def Stl (Init : Nat → Nat → Prop) (Edge : Nat → Nat → Nat → Prop) (L : List Nat) (p : Nat) : Prop := ∀ (x d : Nat), L[p]? = some x → Pth Init Edge p d → x ≤ d
open Classical in
noncomputable def stlN (Init : Nat → Nat → Prop) (Edge : Nat → Nat → Nat → Prop) (L : List Nat) (n : Nat) : Nat := ((List.range n).filter fun p => decide (Stl Init Edge L p)).length
/-- In rounds: k states are settled, and so it goes on; D tells which edges this round has seen (L0: the costs at its beginning). -/
structure Rd (Init : Nat → Nat → Prop) (Edge : Nat → Nat → Nat → Prop) (n k : Nat) (L0 : List Nat) (D : Nat → Nat → Nat → Prop) (L : List Nat) : Prop where
  snd : Snd Init Edge n L
  snd0 : Snd Init Edge n L0
  low : ∀ (q x x0 : Nat), L[q]? = some x → L0[q]? = some x0 → x ≤ x0
  cnt : k ≤ stlN Init Edge L0 n ∨ Lst Init Edge n L0
  seen : ∀ (q p w x y : Nat), D q p w → Edge q p w → L0[q]? = some x → L[p]? = some y → y ≤ x + w
theorem Rd.skip {k : Nat} {L0 : List Nat} {D D' : Nat → Nat → Nat → Prop} (h : Rd Init Edge n k L0 D L) (hd : ∀ (q p w x y : Nat), D' q p w → D q p w ∨ (Edge q p w → L0[q]? = some x → L[p]? = some y → y ≤ x + w)) : Rd Init Edge n k L0 D' L :=
  ⟨h.snd, h.snd0, h.low, h.cnt, fun q p w x y h1 h2 h3 h4 => by
    rcases hd q p w x y h1 with h5 | h5
    · exact h.seen q p w x y h5 h2 h3 h4
    · exact h5 h2 h3 h4⟩
theorem Rd.set {k q0 p0 w0 x0 : Nat} {L0 : List Nat} {D D' : Nat → Nat → Nat → Prop} (h : Rd Init Edge n k L0 D L) (e : Edge q0 p0 w0) (hx : L[q0]? = some x0) (hb : x0 < big) (hlt : ∀ y : Nat, L[p0]? = some y → x0 + w0 < y) (hp0 : p0 < n)
    (hd : ∀ q p w, D' q p w → D q p w ∨ (q = q0 ∧ p = p0 ∧ w = w0)) : Rd Init Edge n k L0 D' (L.set p0 (x0 + w0)) := by
  have hlow : ∀ (q x x1 : Nat), (L.set p0 (x0 + w0))[q]? = some x → L[q]? = some x1 → x ≤ x1 := by
    intro q x x1 h1 h2
    rw [List.getElem?_set] at h1
    split at h1
    · rename_i eq
      subst eq
      split at h1
      · simp only [Option.some.injEq] at h1
        have := hlt x1 h2
        omega
      · cases h1
    · rw [h1] at h2; simp at h2; omega
  have hget : ∀ q, q < n → ∃ x, L[q]? = some x := fun q hq => ⟨L[q]'(by rw [h.snd.len]; exact hq), List.getElem?_eq_getElem _⟩
  have hlt' : ∀ (q x : Nat), (L.set p0 (x0 + w0))[q]? = some x → q < n := fun q x hq => by have := (List.getElem?_eq_some_iff.1 hq).1; rw [List.length_set, h.snd.len] at this; exact this
  refine ⟨h.snd.set e hx hb hlt, h.snd0, fun q x x1 h1 h2 => ?_, h.cnt, fun q p w x y h1 h2 h3 h4 => ?_⟩
  · obtain ⟨z, hz⟩ := hget q (hlt' q x h1)
    have a1 := hlow q x z h1 hz
    have a2 := h.low q z x1 hz h2
    omega
  · obtain ⟨z, hz⟩ := hget p (hlt' p y h4)
    have a1 := hlow p y z h4 hz
    rcases hd q p w h1 with h5 | ⟨rfl, rfl, rfl⟩
    · have := h.seen q p w x z h5 h2 h3 hz
      omega
    · have a2 := h.low q x0 x hx h3
      rw [List.getElem?_set_self (by rw [h.snd.len]; exact hp0)] at h4
      simp only [Option.some.injEq] at h4
      omega
open Classical in
theorem Rd.all {k : Nat} (hs : Snd Init Edge n L) (hc : k ≤ stlN Init Edge L n ∨ Lst Init Edge n L) (hk : n ≤ k) : L = dstL Init Edge n := by
  rcases hc with hc | hc
  · refine Lst.eq ⟨hs, fun q x d hx hp => ?_⟩
    have hq : q < n := by have := (List.getElem?_eq_some_iff.1 hx).1; rw [hs.len] at this; exact this
    have hfull : ∀ p ∈ List.range n, decide (Stl Init Edge L p) = true := by
      have h1 : ((List.range n).filter fun p => decide (Stl Init Edge L p)).length = (List.range n).length := by
        have := List.length_filter_le (fun p => decide (Stl Init Edge L p)) (List.range n)
        unfold stlN at hc
        simp only [List.length_range] at this ⊢
        omega
      exact List.length_filter_eq_length_iff.1 h1
    have := hfull q (List.mem_range.2 hq)
    exact (of_decide_eq_true this) x d hx hp
  · exact hc.eq

/-- By a queue: T is what waits. -/
structure Que (Init : Nat → Nat → Prop) (Edge : Nat → Nat → Nat → Prop) (n : Nat) (X : Nat → Prop) (L : List Nat) (T : List Nat) : Prop where
  snd : Snd Init Edge n L
  fin : ∀ q ∈ T, ∃ x : Nat, L[q]? = some x ∧ x < big
  nodup : T.Nodup
  edge : ∀ (q p w x y : Nat), q ∉ T → ¬ X q → Edge q p w → L[q]? = some x → x < big → L[p]? = some y → y ≤ x + w
theorem Que.done {T : List Nat} (h : Que Init Edge n (fun _ => False) L T) (hT : T = []) (hin : ∀ q p w, Edge q p w → q < n) : L = dstL Init Edge n :=
  (Lst.of_closed h.snd hin fun q p w x y e hx hb hy => h.edge q p w x y (by simp [hT]) (by simp) e hx hb hy).eq
theorem Que.take {T : List Nat} {q : Nat} (h : Que Init Edge n (fun _ => False) L (q :: T)) : q ∉ T ∧ Que Init Edge n (fun x => x = q) L T := by
  have hn := List.nodup_cons.1 h.nodup
  exact ⟨hn.1, h.snd, fun x hx => h.fin x (by simp [hx]), hn.2, fun x p w a b h1 h2 h3 h4 h5 h6 => h.edge x p w a b (by simp [h1]; exact h2) (by simp) h3 h4 h5 h6⟩
/-- A cost gets less; its state waits from now on (T': T, with it). -/
theorem Que.less {T T' : List Nat} {q p w x : Nat} (h : Que Init Edge n (fun z => z = q) L T) (e : Edge q p w) (hx : L[q]? = some x) (hb : x < big) (hp : p < n) (hlt : ∀ y : Nat, L[p]? = some y → x + w < y) (hT : T' = if p ∈ T then T else T ++ [p]) : Que Init Edge n (fun z => z = q) (L.set p (x + w)) T' := by
  have hpl : p < L.length := by rw [h.snd.len]; exact hp
  have hpT : p ∈ T' := by rw [hT]; split <;> simp_all
  have hsub : ∀ r, r ∉ T' → r ∉ T ∧ r ≠ p := by
    intro r hr
    refine ⟨fun hm => hr ?_, fun e' => hr (e' ▸ hpT)⟩
    rw [hT]; split <;> simp [hm]
  have hb2 : x + w < big := by
    have h1 := hlt L[p] (List.getElem?_eq_getElem hpl)
    have h2 := h.snd.le p _ (List.getElem?_eq_getElem hpl)
    omega
  refine ⟨h.snd.set e hx hb hlt, fun r hr => ?_, ?_, fun r s v a b h1 h2 h3 h4 h5 h6 => ?_⟩
  · by_cases er : r = p
    · subst er
      exact ⟨x + w, by rw [List.getElem?_set_self hpl], hb2⟩
    · have hrT : r ∈ T := by
        rw [hT] at hr
        split at hr
        · exact hr
        · rcases List.mem_append.1 hr with hr | hr
          · exact hr
          · exact absurd (by simpa using hr) er
      obtain ⟨y, h1, h2⟩ := h.fin r hrT
      exact ⟨y, by rw [List.getElem?_set_ne (Ne.symm er)]; exact h1, h2⟩
  · rw [hT]
    split
    · exact h.nodup
    · rename_i hn
      rw [List.nodup_append]
      exact ⟨h.nodup, by simp, fun a ha b hb => by simp at hb; subst hb; rintro rfl; exact hn ha⟩
  · obtain ⟨h7, h8⟩ := hsub r h1
    rw [List.getElem?_set_ne (Ne.symm h8)] at h4
    by_cases es : s = p
    · subst es
      rw [List.getElem?_set_self hpl] at h6
      simp only [Option.some.injEq] at h6
      have h9 := hlt L[s] (List.getElem?_eq_getElem hpl)
      have h10 := h.edge r s v a _ h7 h2 h3 h4 h5 (List.getElem?_eq_getElem hpl)
      omega
    · rw [List.getElem?_set_ne (Ne.symm es)] at h6
      exact h.edge r s v a b h7 h2 h3 h4 h5 h6
end
theorem nodup_len : ∀ {n : Nat} {l : List Nat}, l.Nodup → (∀ x ∈ l, x < n) → l.length ≤ n
  | 0, l, _, h => by
    cases l with
    | nil => simp
    | cons x l => exact absurd (h x (by simp)) (by omega)
  | n + 1, l, hd, h => by
    have h1 := nodup_len (n := n) (l := l.filter (fun x => x != n)) (hd.filter _) (fun x hx => by
      simp only [List.mem_filter, bne_iff_ne, ne_eq] at hx
      have := h x hx.1
      omega)
    have h2 : ∀ (l : List Nat), l.Nodup → l.length ≤ (l.filter (fun x => x != n)).length + 1 := by
      intro l
      induction l with
      | nil => simp
      | cons y l ih =>
        intro hd
        have hd' := List.nodup_cons.1 hd
        by_cases e : y = n
        · subst e
          have : l.filter (fun x => x != y) = l := List.filter_eq_self.2 fun x hx => by
            simp only [bne_iff_ne, ne_eq]; rintro rfl; exact hd'.1 hx
          simp [List.filter_cons, this]
        · have := ih hd'.2
          simp [List.filter_cons, e]
          omega
    have := h2 l hd
    omega
end Go.Proofs.Ythlcginebeapdaa
namespace Go.Proofs.Ythlcginebeapdaa
open Go.RowKit
set_option linter.unusedSimpArgs false
set_option linter.unusedVariables false

structure Mk where
  s : Int
  w : Int
  o : List Int
structure Rn where
  f : Int
  ms : List Mk
end Go.Proofs.Ythlcginebeapdaa
namespace Go.Proofs.Ythlcginebeapdaa
open Go.RowKit
set_option linter.unusedSimpArgs false
set_option linter.unusedVariables false

section
variable {c : Cx} {s : S} {o : Oper}
/-- One operation that changes nothing, nor where the objects lie. -/
def StepK (c : Cx) (o : Oper) (s : S) (N : S → Prop) : Prop := ∀ g a w, Sim c g s a w → ∀ (K : Act → World → Prop) (Q : Exit → Act → World → Prop),
  (∀ s' a' w', N s' → Sim c g s' a' w' → Below w.heap.size w w' → K a' w') → o.wp c.P a w K Q
theorem RD.stepK {v : V} {N : S → Prop} (h : RD c o s v) (hd : dok s o = true) (hN : N (s.put o.dst v)) : StepK c o s N := by
  intro g a w hs K Q hK
  obtain ⟨x, h1, h2⟩ := h g a w hs
  unfold Oper.wp
  rw [h2 w (Below.refl _ _)]
  exact hK _ _ _ hN (hs.put o.dst (dok_spec hd) h1) (Below.refl _ _)
/-- A read of object r, if that is old. -/
def RO (c : Cx) (o : Oper) (s : S) (r : Nat) (v : V) : Prop := ∀ W g a w, Sim c g s a w → Below W.heap.size W w → (g r).1 < W.heap.size → ∃ x, VRep w (qt c s.H g) g v x ∧ ∀ w', Below W.heap.size W w' → (execOp a.eval o).run c.P w' = .ok (.value x) w'
variable {Q : Exit → S → Prop} {L : List Oper} {ops : Array Oper} {need : Nat → Bool} {l : List (Nat × Bool)} {i : Nat} {O : List Nat}
def AO (O : List Nat) (c : Cx) (ops : Array Oper) (Q : Exit → S → Prop) (need : Nat → Bool) (l : List (Nat × Bool)) (s : S) : Prop := ∀ W g a w, Sim c g s a w → Below W.heap.size W w → (∀ r ∈ O, (g r).1 < W.heap.size) → ASeq c.P ops (QQ c Q) (Below W.heap.size W) need l a w
theorem AO.stepK (hi : L[i]? = some o) (hg : o.guard = none) (h : StepK c o s (AO O c L.toArray Q need l)) : AO O c L.toArray Q need ((i, false) :: l) s := fun W g a w hs hb hO =>
  wpOp_of (by simpa using hi) hg (h g a w hs _ _ fun s' a' w' h1 h2 h3 => ⟨fun _ => hb.trans (h3.mono hb.size), h1 W g a' w' h2 (hb.trans (h3.mono hb.size)) hO⟩)
theorem AO.stepKy {j : Nat} {b : Bool} (hi : L[i]? = some o) (hg : o.guard = some (j, b)) (hy : yld L.toArray s j = some b) (h : StepK c o s (AO O c L.toArray Q need l)) : AO O c L.toArray Q need ((i, false) :: l) s := fun W g a w hs hb hO =>
  wpOp_ofy (by simpa using hi) (by simp [Region.wanted, hg, yld_spec hy hs]) (h g a w hs _ _ fun s' a' w' h1 h2 h3 => ⟨fun _ => hb.trans (h3.mono hb.size), h1 W g a' w' h2 (hb.trans (h3.mono hb.size)) hO⟩)
theorem AO.call {post : V → Prop} (hi : L[i]? = some o) (hg : o.guard = none) (h : StepK c o s (fun s' => ∃ v, post v ∧ v.pure ∧ s' = s.put o.dst v)) (hN : ∀ v, post v → v.pure → AO O c L.toArray Q need l (s.put o.dst v)) : AO O c L.toArray Q need ((i, false) :: l) s :=
  AO.stepK hi hg fun g a w hs K Q' hK => h g a w hs K Q' fun s' a' w' ⟨v, h1, h2, e⟩ h3 h4 => hK s' a' w' (by subst e; exact hN v h1 h2) h3 h4
theorem AO.cally {post : V → Prop} {j : Nat} {b : Bool} (hi : L[i]? = some o) (hg : o.guard = some (j, b)) (hy : yld L.toArray s j = some b) (h : StepK c o s (fun s' => ∃ v, post v ∧ v.pure ∧ s' = s.put o.dst v)) (hN : ∀ v, post v → v.pure → AO O c L.toArray Q need l (s.put o.dst v)) : AO O c L.toArray Q need ((i, false) :: l) s :=
  AO.stepKy hi hg hy fun g a w hs K Q' hK => h g a w hs K Q' fun s' a' w' ⟨v, h1, h2, e⟩ h3 h4 => hK s' a' w' (by subst e; exact hN v h1 h2) h3 h4
theorem AO.rd1 {v : V} (hi : L[i]? = some o) (hg : o.guard = none) (hd : dok s o = true) (h : RD c o s v) (hN : AO O c L.toArray Q need l (s.put o.dst v)) : AO O c L.toArray Q need ((i, false) :: l) s := AO.stepK hi hg (h.stepK hd hN)
theorem AO.rp1 {v : V} (hi : L[i]? = some o) (hg : o.guard = none) (hd : dok s o = true) (h : RP c o s v) (hN : AO O c L.toArray Q need l (s.put o.dst v)) : AO O c L.toArray Q need ((i, false) :: l) s := AO.rd1 hi hg hd h.rd hN
theorem AO.rd1y {v : V} {j : Nat} {b : Bool} (hi : L[i]? = some o) (hg : o.guard = some (j, b)) (hy : yld L.toArray s j = some b) (hd : dok s o = true) (h : RD c o s v) (hN : AO O c L.toArray Q need l (s.put o.dst v)) : AO O c L.toArray Q need ((i, false) :: l) s := AO.stepKy hi hg hy (h.stepK hd hN)
theorem AO.rp1y {v : V} {j : Nat} {b : Bool} (hi : L[i]? = some o) (hg : o.guard = some (j, b)) (hy : yld L.toArray s j = some b) (hd : dok s o = true) (h : RP c o s v) (hN : AO O c L.toArray Q need l (s.put o.dst v)) : AO O c L.toArray Q need ((i, false) :: l) s := AO.rd1y hi hg hy hd h.rd hN
theorem AO.rp {v : V} (hi : L[i]? = some o) (hg : o.guard = none) (hd : dok s o = true) (hp : noP Q) (h : RP c o s v) (hN : AO O c L.toArray Q need l (s.put o.dst v)) : AO O c L.toArray Q need ((i, true) :: l) s := fun W g a w hs hb hO => by
  obtain ⟨x, h1, h2⟩ := h g a w hs
  exact ⟨o, x, by simpa using hi, .inl ⟨by simp [Region.wanted, hg], fun w' _ => h2 w'⟩, hb, QQ_noP hp _ _, hN W g _ w (hs.put o.dst (dok_spec hd) h1) hb hO⟩
theorem AO.rpy {v : V} {j : Nat} {b : Bool} (hi : L[i]? = some o) (hg : o.guard = some (j, b)) (hy : yld L.toArray s j = some b) (hd : dok s o = true) (hp : noP Q) (h : RP c o s v) (hN : AO O c L.toArray Q need l (s.put o.dst v)) : AO O c L.toArray Q need ((i, true) :: l) s := fun W g a w hs hb hO => by
  obtain ⟨x, h1, h2⟩ := h g a w hs
  exact ⟨o, x, by simpa using hi, .inl ⟨by simp [Region.wanted, hg, yld_spec hy hs], fun w' _ => h2 w'⟩, hb, QQ_noP hp _ _, hN W g _ w (hs.put o.dst (dok_spec hd) h1) hb hO⟩
theorem AO.rd {v : V} {r : Nat} (hi : L[i]? = some o) (hg : o.guard = none) (hd : dok s o = true) (hp : noP Q) (h : RO c o s r v) (hr : r ∈ O) (hN : AO O c L.toArray Q need l (s.put o.dst v)) : AO O c L.toArray Q need ((i, true) :: l) s := fun W g a w hs hb hO => by
  obtain ⟨x, h1, h2⟩ := h W g a w hs hb (hO r hr)
  exact ⟨o, x, by simpa using hi, .inl ⟨by simp [Region.wanted, hg], h2⟩, hb, QQ_noP hp _ _, hN W g _ w (hs.put o.dst (dok_spec hd) h1) hb hO⟩
theorem AO.rdy {v : V} {r : Nat} {j : Nat} {b : Bool} (hi : L[i]? = some o) (hg : o.guard = some (j, b)) (hy : yld L.toArray s j = some b) (hd : dok s o = true) (hp : noP Q) (h : RO c o s r v) (hr : r ∈ O) (hN : AO O c L.toArray Q need l (s.put o.dst v)) : AO O c L.toArray Q need ((i, true) :: l) s := fun W g a w hs hb hO => by
  obtain ⟨x, h1, h2⟩ := h W g a w hs hb (hO r hr)
  exact ⟨o, x, by simpa using hi, .inl ⟨by simp [Region.wanted, hg, yld_spec hy hs], h2⟩, hb, QQ_noP hp _ _, hN W g _ w (hs.put o.dst (dok_spec hd) h1) hb hO⟩
theorem AO.nil (h : Q .normal s) : AO O c L.toArray Q need [] s := fun W g a w hs _ _ => ⟨g, s, h, hs⟩
/-- An operation that is not wanted. -/
theorem AO.skipT (hi : L[i]? = some o) (hw : ∀ g a w, Sim c g s a w → Region.wanted o (yielded L.toArray a.tmps) = false) (hd : dok s o = true) (hp : noP Q) (hN : AO O c L.toArray Q need l (s.put o.dst (.d (.p undef)))) : AO O c L.toArray Q need ((i, true) :: l) s := fun W g a w hs hb hO =>
  ⟨o, undef, by simpa using hi, .inr ⟨hw g a w hs, rfl⟩, hb, QQ_noP hp _ _, hN W g _ w (hs.put o.dst (dok_spec hd) (.d _ _ (.p _))) hb hO⟩
theorem AO.skipF (hi : L[i]? = some o) (hw : ∀ g a w, Sim c g s a w → Region.wanted o (yielded L.toArray a.tmps) = false) (hd : dok s o = true) (hN : AO O c L.toArray Q need l (s.put o.dst (.d (.p undef)))) : AO O c L.toArray Q need ((i, false) :: l) s := fun W g a w hs hb hO => by
  have hw' : ¬ Region.wanted o (yielded L.toArray a.tmps) = true := by rw [hw g a w hs]; simp
  show wpOp c.P L.toArray (QQ c Q) i _ a w
  unfold wpOp
  simp only [List.getElem?_toArray, hi]
  rw [if_neg hw']
  exact ⟨fun _ => hb, hN W g _ w (hs.put o.dst (dok_spec hd) (.d _ _ (.p _))) hb hO⟩
theorem not_wanted {j : Nat} {b b' : Bool} (hg : o.guard = some (j, b)) (hy : yld L.toArray s j = some b') (hb' : (b' == b) = false) : ∀ g a w, Sim c g s a w → Region.wanted o (yielded L.toArray a.tmps) = false := fun g a w hs => by
  simp only [Region.wanted, hg, yld_spec hy hs]; simpa using hb'
theorem not_wantedU {j : Nat} {b : Bool} (hg : o.guard = some (j, b)) (hy : und L.toArray s j) : ∀ g a w, Sim c g s a w → Region.wanted o (yielded L.toArray a.tmps) = false := fun g a w hs => by
  simp only [Region.wanted, hg, und_spec hy hs]; simp
theorem AO.noV {j : Nat} {b b' : Bool} (hi : L[i]? = some o) (hg : o.guard = some (j, b)) (hy : yld L.toArray s j = some b') (hb' : (b' == b) = false) (hd : dok s o = true) (hp : noP Q) (hN : AO O c L.toArray Q need l (s.put o.dst (.d (.p undef)))) : AO O c L.toArray Q need ((i, true) :: l) s := AO.skipT hi (not_wanted hg hy hb') hd hp hN
theorem AO.noU {j : Nat} {b : Bool} (hi : L[i]? = some o) (hg : o.guard = some (j, b)) (hy : und L.toArray s j) (hd : dok s o = true) (hp : noP Q) (hN : AO O c L.toArray Q need l (s.put o.dst (.d (.p undef)))) : AO O c L.toArray Q need ((i, true) :: l) s := AO.skipT hi (not_wantedU hg hy) hd hp hN
theorem AO.noV1 {j : Nat} {b b' : Bool} (hi : L[i]? = some o) (hg : o.guard = some (j, b)) (hy : yld L.toArray s j = some b') (hb' : (b' == b) = false) (hd : dok s o = true) (hN : AO O c L.toArray Q need l (s.put o.dst (.d (.p undef)))) : AO O c L.toArray Q need ((i, false) :: l) s := AO.skipF hi (not_wanted hg hy hb') hd hN
end
end Go.Proofs.Ythlcginebeapdaa
namespace Go.Proofs.Ythlcginebeapdaa
open Go.RowKit
set_option linter.unusedSimpArgs false
set_option linter.unusedVariables false

section
variable {P : Program} {ops : Array Oper} {Q : Exit → Act → World → Prop} {md : Region.Mode} {T : World → Prop} {need : Nat → Bool}
def ASeq2 (P : Program) (ops : Array Oper) (Q : Exit → Act → World → Prop) (T : World → Prop) (need : Nat → Bool) (r1 r2 : List (Nat × Bool)) : List Nat → Act → World → Prop
  | [], a, w => ASeq P ops Q T need r1 a w ∧ ASeq P ops Q T need r2 a w
  | i :: r, a, w => ∃ oi x, ops[i]? = some oi ∧ YieldsIf P ops T oi x a ∧ T w ∧ (∀ c a w, Q (.panic c) (a.put oi.dst x) w → Q (.panic c) a w) ∧ ASeq2 P ops Q T need r1 r2 r (a.put oi.dst x) w
end
section
variable {c : Cx} {s : S} {Q : Exit → S → Prop} {ops : Array Oper} {L : List Oper} {need : Nat → Bool} {r1 r2 : List (Nat × Bool)} {l : List Nat} {i : Nat} {o : Oper}
/-- A list without what is shadowed. -/
def ddL {α : Type} : List Nat → List (Nat × α) → List (Nat × α)
  | _, [] => []
  | seen, (k, v) :: l => if seen.contains k then ddL seen l else (k, v) :: ddL (k :: seen) l
theorem ddL_get {α : Type} : ∀ (l : List (Nat × α)) (seen : List Nat) (i : Nat) (v : α), fnd (ddL seen l) i = some v → i ∉ seen ∧ fnd l i = some v
  | [], seen, i, v, h => by simp [ddL, fnd] at h
  | (k, u) :: l, seen, i, v, h => by
    simp only [ddL] at h
    split at h
    · rename_i hk
      obtain ⟨h1, h2⟩ := ddL_get l seen i v h
      refine ⟨h1, ?_⟩
      have : k ≠ i := by rintro rfl; exact h1 (by simpa using hk)
      simpa [fnd, this] using h2
    · rename_i hk
      simp only [fnd] at h ⊢
      split at h
      · rename_i e
        simp only [beq_iff_eq] at e
        subst e
        exact ⟨by simpa using hk, by simpa using h⟩
      · rename_i e
        obtain ⟨h1, h2⟩ := ddL_get l (k :: seen) i v h
        rw [if_neg e]
        exact ⟨fun hm => h1 (List.mem_cons_of_mem _ hm), h2⟩
def S.dd (s : S) : S := ⟨s.n, ddL [] s.T, ddL [] s.H, s.K⟩
theorem Less.dd (s : S) : Less s.dd s := ⟨rfl, fun i v h => ⟨v, (ddL_get _ _ _ _ h).2, .refl _⟩, fun r row h => ⟨row, (ddL_get _ _ _ _ h).2, rfl, rfl, rfl, fun j v hv => ⟨v, hv, .refl _⟩⟩, fun j v h => ⟨v, h, .refl _⟩⟩
theorem Less.refl (s : S) : Less s s := ⟨rfl, fun i v h => ⟨v, h, .refl _⟩, fun r row h => ⟨row, h, rfl, rfl, rfl, fun j v hv => ⟨v, hv, .refl _⟩⟩, fun j v h => ⟨v, h, .refl _⟩⟩
/-- Both orders end at N, or know more. -/
def QJ (N : S) : Exit → S → Prop
  | .normal, s => Less N s
  | _, _ => False
def AB1 (c : Cx) (ops : Array Oper) (Q : Exit → S → Prop) (need : Nat → Bool) (r1 r2 : List (Nat × Bool)) (l : List Nat) (s : S) : Prop := ∀ g a w, Sim c g s a w → ASeq2 c.P ops (QQ c Q) (Below w.heap.size w) need r1 r2 l a w
theorem AB1.rd {v : V} (hi : L[i]? = some o) (hg : o.guard = none) (hd : dok s o = true) (hp : noP Q) (h : RD c o s v) (hN : AB1 c L.toArray Q need r1 r2 l (s.put o.dst v)) : AB1 c L.toArray Q need r1 r2 (i :: l) s := fun g a w hs => by
  obtain ⟨x, h1, h2⟩ := h g a w hs
  exact ⟨o, x, by simpa using hi, .inl ⟨by simp [Region.wanted, hg], h2⟩, Below.refl _ _, QQ_noP hp _ _, hN g _ w (hs.put o.dst (dok_spec hd) h1)⟩
theorem AB1.rp {v : V} (hi : L[i]? = some o) (hg : o.guard = none) (hd : dok s o = true) (hp : noP Q) (h : RP c o s v) (hN : AB1 c L.toArray Q need r1 r2 l (s.put o.dst v)) : AB1 c L.toArray Q need r1 r2 (i :: l) s := AB1.rd hi hg hd hp h.rd hN
theorem AB1.rdy {v : V} {j : Nat} {b : Bool} (hi : L[i]? = some o) (hg : o.guard = some (j, b)) (hy : yld L.toArray s j = some b) (hd : dok s o = true) (hp : noP Q) (h : RD c o s v) (hN : AB1 c L.toArray Q need r1 r2 l (s.put o.dst v)) : AB1 c L.toArray Q need r1 r2 (i :: l) s := fun g a w hs => by
  obtain ⟨x, h1, h2⟩ := h g a w hs
  exact ⟨o, x, by simpa using hi, .inl ⟨by simp [Region.wanted, hg, yld_spec hy hs], h2⟩, Below.refl _ _, QQ_noP hp _ _, hN g _ w (hs.put o.dst (dok_spec hd) h1)⟩
theorem AB1.rpy {v : V} {j : Nat} {b : Bool} (hi : L[i]? = some o) (hg : o.guard = some (j, b)) (hy : yld L.toArray s j = some b) (hd : dok s o = true) (hp : noP Q) (h : RP c o s v) (hN : AB1 c L.toArray Q need r1 r2 l (s.put o.dst v)) : AB1 c L.toArray Q need r1 r2 (i :: l) s := AB1.rdy hi hg hy hd hp h.rd hN
theorem AB1.no {j : Nat} {b b' : Bool} (hi : L[i]? = some o) (hg : o.guard = some (j, b)) (hy : yld L.toArray s j = some b') (hb : (b' == b) = false) (hd : dok s o = true) (hp : noP Q) (hN : AB1 c L.toArray Q need r1 r2 l (s.put o.dst .junk)) : AB1 c L.toArray Q need r1 r2 (i :: l) s := fun g a w hs =>
  ⟨o, undef, by simpa using hi, .inr ⟨by simp only [Region.wanted, hg, yld_spec hy hs]; simpa using hb, rfl⟩, Below.refl _ _, QQ_noP hp _ _, hN g _ w (hs.put o.dst (dok_spec hd) (.junk _))⟩
theorem AB1.nil (h1 : AD2 c L.toArray Q need r1 s) (h2 : AD2 c L.toArray Q need r2 s) : AB1 c L.toArray Q need r1 r2 [] s := fun g a w hs => ⟨h1 w g a w hs (Below.refl _ _), h2 w g a w hs (Below.refl _ _)⟩
/-- A new object r has been made since the region began: what is written to it harms nobody. -/
def AQ (r : Nat) (c : Cx) (ops : Array Oper) (Q : Exit → S → Prop) (need : Nat → Bool) (l : List (Nat × Bool)) (s : S) : Prop := ∀ W g a w, Sim c g s a w → Below W.heap.size W w → W.heap.size ≤ (g r).1 → ASeq c.P ops (QQ c Q) (Below W.heap.size W) need l a w
variable {l : List (Nat × Bool)} {r : Nat}
theorem AD2.new {r : Nat} {X : S} (hi : L[i]? = some o) (hg : o.guard = none) (h : StepG c o s r (fun s' => s' = X)) (hN : AQ r c L.toArray Q need l X) : AD2 c L.toArray Q need ((i, false) :: l) s := fun W g a w hs hb =>
  wpOp_of (by simpa using hi) hg (h g a w hs _ _ fun g' s' a' w' h1 h2 h3 _ h5 => by
    subst h1
    have hb' := hb.trans (h3.mono hb.size)
    exact ⟨fun _ => hb', hN W g' a' w' h2 hb' (Nat.le_trans hb.size h5)⟩)
theorem AQ.stepK (hi : L[i]? = some o) (hg : o.guard = none) (h : StepK c o s (AQ r c L.toArray Q need l)) : AQ r c L.toArray Q need ((i, false) :: l) s := fun W g a w hs hb hr =>
  wpOp_of (by simpa using hi) hg (h g a w hs _ _ fun s' a' w' h1 h2 h3 => ⟨fun _ => hb.trans (h3.mono hb.size), h1 W g a' w' h2 (hb.trans (h3.mono hb.size)) hr⟩)
theorem AQ.stepKy {j : Nat} {b : Bool} (hi : L[i]? = some o) (hg : o.guard = some (j, b)) (hy : yld L.toArray s j = some b) (h : StepK c o s (AQ r c L.toArray Q need l)) : AQ r c L.toArray Q need ((i, false) :: l) s := fun W g a w hs hb hr =>
  wpOp_ofy (by simpa using hi) (by simp [Region.wanted, hg, yld_spec hy hs]) (h g a w hs _ _ fun s' a' w' h1 h2 h3 => ⟨fun _ => hb.trans (h3.mono hb.size), h1 W g a' w' h2 (hb.trans (h3.mono hb.size)) hr⟩)
theorem AQ.call {post : V → Prop} (hi : L[i]? = some o) (hg : o.guard = none) (h : StepK c o s (fun s' => ∃ v, post v ∧ v.pure ∧ s' = s.put o.dst v)) (hN : ∀ v, post v → v.pure → AQ r c L.toArray Q need l (s.put o.dst v)) : AQ r c L.toArray Q need ((i, false) :: l) s :=
  AQ.stepK hi hg fun g a w hs K Q' hK => h g a w hs K Q' fun s' a' w' ⟨v, h1, h2, e⟩ h3 h4 => hK s' a' w' (by subst e; exact hN v h1 h2) h3 h4
theorem AQ.rd1 {v : V} (hi : L[i]? = some o) (hg : o.guard = none) (hd : dok s o = true) (h : RD c o s v) (hN : AQ r c L.toArray Q need l (s.put o.dst v)) : AQ r c L.toArray Q need ((i, false) :: l) s := AQ.stepK hi hg (h.stepK hd hN)
theorem AQ.rp1 {v : V} (hi : L[i]? = some o) (hg : o.guard = none) (hd : dok s o = true) (h : RP c o s v) (hN : AQ r c L.toArray Q need l (s.put o.dst v)) : AQ r c L.toArray Q need ((i, false) :: l) s := AQ.rd1 hi hg hd h.rd hN
theorem AQ.rp {v : V} (hi : L[i]? = some o) (hg : o.guard = none) (hd : dok s o = true) (hp : noP Q) (h : RP c o s v) (hN : AQ r c L.toArray Q need l (s.put o.dst v)) : AQ r c L.toArray Q need ((i, true) :: l) s := fun W g a w hs hb hr => by
  obtain ⟨x, h1, h2⟩ := h g a w hs
  exact ⟨o, x, by simpa using hi, .inl ⟨by simp [Region.wanted, hg], fun w' _ => h2 w'⟩, hb, QQ_noP hp _ _, hN W g _ w (hs.put o.dst (dok_spec hd) h1) hb hr⟩
theorem AQ.st {row row' : Row} (hi : L[i]? = some o) (hg : o.guard = none) (h : StepS c o s r row' ∧ row.nil = false ∧ fnd s.H r = some row) (hN : AQ r c L.toArray Q need l { s with H := (r, row') :: s.H }) : AQ r c L.toArray Q need ((i, false) :: l) s := fun W g a w hs hb hr =>
  wpOp_of (by simpa using hi) hg (h.1 g a w hs _ _ fun a' w' h2 h3 => by
    have hb' : Below W.heap.size W w' := ⟨by rw [← hb.os, h2.below.os, hs.below.os], by rw [← hb.tape, h2.below.tape, hs.below.tape], by rw [← hb.output, h2.below.output, hs.below.output], by rw [h3.1]; exact hb.size, fun k hk => (h3.2 k (by omega)).trans (hb.block k hk)⟩
    exact ⟨fun _ => hb', hN W g a' w' h2 hb' hr⟩)
theorem AQ.nil (h : Q .normal s) : AQ r c L.toArray Q need [] s := fun W g a w hs _ _ => ⟨g, s, h, hs⟩
theorem AD2.noV1 {j : Nat} {b b' : Bool} (hi : L[i]? = some o) (hg : o.guard = some (j, b)) (hy : yld L.toArray s j = some b') (hb' : (b' == b) = false) (hd : dok s o = true) (hN : AD2 c L.toArray Q need l (s.put o.dst (.d (.p undef)))) : AD2 c L.toArray Q need ((i, false) :: l) s := fun W g a w hs hb => by
  have hw' : ¬ Region.wanted o (yielded L.toArray a.tmps) = true := by rw [not_wanted hg hy hb' g a w hs]; simp
  show wpOp c.P L.toArray (QQ c Q) i _ a w
  unfold wpOp
  simp only [List.getElem?_toArray, hi]
  rw [if_neg hw']
  exact ⟨fun _ => hb, hN W g _ w (hs.put o.dst (dok_spec hd) (.d _ _ (.p _))) hb⟩
end
end Go.Proofs.Ythlcginebeapdaa
namespace Go.Proofs.Ythlcginebeapdaa
open Go.RowKit
set_option linter.unusedSimpArgs false
set_option linter.unusedVariables false

section
variable {P : Program} {ops : Array Oper} {Q : Exit → Act → World → Prop} {md : Region.Mode} {T : World → Prop} {need : Nat → Bool}
def ASeqF (P : Program) (ops : Array Oper) (Q : Exit → Act → World → Prop) (T : World → Prop) (need : Nat → Bool) : List (Nat × Nat) → Act → World → Prop
  | [], a, w => Q .normal a w
  | (i, 0) :: r, a, w => wpOp P ops Q i (fun a' w' => (need i = true → T w → T w') ∧ ASeqF P ops Q T need r a' w') a w
  | (i, 1) :: r, a, w => ∃ oi x, ops[i]? = some oi ∧ YieldsIf P ops T oi x a ∧ T w ∧ (∀ c a w, Q (.panic c) (a.put oi.dst x) w → Q (.panic c) a w) ∧ ASeqF P ops Q T need r (a.put oi.dst x) w
  | (i, _ + 2) :: r, a, w => ∃ oi x, ops[i]? = some oi ∧ YieldsIf P ops (fun _ => True) oi x a ∧ (∀ c a w, Q (.panic c) (a.put oi.dst x) w → Q (.panic c) a w) ∧ ASeqF P ops Q T need r (a.put oi.dst x) w
end

section
variable {c : Cx} {s : S} {Q : Exit → S → Prop} {ops : Array Oper} {L : List Oper} {need : Nat → Bool} {l : List (Nat × Nat)} {i : Nat} {o : Oper}
/-- First reads, then what makes new memory, then anything. -/
def AF1 (c : Cx) (ops : Array Oper) (Q : Exit → S → Prop) (need : Nat → Bool) (l : List (Nat × Nat)) (s : S) : Prop := ∀ g a w, Sim c g s a w → ASeqF c.P ops (QQ c Q) (Below w.heap.size w) need l a w
def AF2 (c : Cx) (ops : Array Oper) (Q : Exit → S → Prop) (need : Nat → Bool) (l : List (Nat × Nat)) (s : S) : Prop := ∀ W g a w, Sim c g s a w → Below W.heap.size W w → ASeqF c.P ops (QQ c Q) (Below W.heap.size W) need l a w
def AF3 (c : Cx) (ops : Array Oper) (Q : Exit → S → Prop) (need : Nat → Bool) (l : List (Nat × Nat)) (s : S) : Prop := ∀ (T : World → Prop) g a w, Sim c g s a w → ASeqF c.P ops (QQ c Q) T need l a w
theorem AF1.rd {v : V} (hi : L[i]? = some o) (hg : o.guard = none) (hd : dok s o = true) (hp : noP Q) (h : RD c o s v) (hN : AF1 c L.toArray Q need l (s.put o.dst v)) : AF1 c L.toArray Q need ((i, 1) :: l) s := fun g a w hs => by
  obtain ⟨x, h1, h2⟩ := h g a w hs
  exact ⟨o, x, by simpa using hi, .inl ⟨by simp [Region.wanted, hg], h2⟩, Below.refl _ _, QQ_noP hp _ _, hN g _ w (hs.put o.dst (dok_spec hd) h1)⟩
theorem AF1.rdy {v : V} {j : Nat} {b : Bool} (hi : L[i]? = some o) (hg : o.guard = some (j, b)) (hy : yld L.toArray s j = some b) (hd : dok s o = true) (hp : noP Q) (h : RD c o s v) (hN : AF1 c L.toArray Q need l (s.put o.dst v)) : AF1 c L.toArray Q need ((i, 1) :: l) s := fun g a w hs => by
  obtain ⟨x, h1, h2⟩ := h g a w hs
  exact ⟨o, x, by simpa using hi, .inl ⟨by simp [Region.wanted, hg, yld_spec hy hs], h2⟩, Below.refl _ _, QQ_noP hp _ _, hN g _ w (hs.put o.dst (dok_spec hd) h1)⟩
theorem AF1.rp {v : V} (hi : L[i]? = some o) (hg : o.guard = none) (hd : dok s o = true) (hp : noP Q) (h : RP c o s v) (hN : AF1 c L.toArray Q need l (s.put o.dst v)) : AF1 c L.toArray Q need ((i, 2) :: l) s := fun g a w hs => by
  obtain ⟨x, h1, h2⟩ := h g a w hs
  exact ⟨o, x, by simpa using hi, .inl ⟨by simp [Region.wanted, hg], fun w' _ => h2 w'⟩, QQ_noP hp _ _, hN g _ w (hs.put o.dst (dok_spec hd) h1)⟩
theorem AF1.go (h : AF2 c L.toArray Q need l s) : AF1 c L.toArray Q need l s := fun g a w hs => h w g a w hs (Below.refl _ _)
theorem AF1.nil (h : Q .normal s) : AF1 c L.toArray Q need [] s := fun g a w hs => ⟨g, s, h, hs⟩
theorem AF2.rp {v : V} (hi : L[i]? = some o) (hg : o.guard = none) (hd : dok s o = true) (hp : noP Q) (h : RP c o s v) (hN : AF2 c L.toArray Q need l (s.put o.dst v)) : AF2 c L.toArray Q need ((i, 2) :: l) s := fun W g a w hs hb => by
  obtain ⟨x, h1, h2⟩ := h g a w hs
  exact ⟨o, x, by simpa using hi, .inl ⟨by simp [Region.wanted, hg], fun w' _ => h2 w'⟩, QQ_noP hp _ _, hN W g _ w (hs.put o.dst (dok_spec hd) h1) hb⟩
theorem AF2.stepM (hi : L[i]? = some o) (hg : o.guard = none) (h : StepM c o s (AF2 c L.toArray Q need l)) : AF2 c L.toArray Q need ((i, 0) :: l) s := fun W g a w hs hb =>
  wpOp_of (by simpa using hi) hg (h g a w hs _ _ fun g' s' a' w' h1 h2 h3 => ⟨fun _ _ => hb.trans (h3.mono hb.size), h1 W g' a' w' h2 (hb.trans (h3.mono hb.size))⟩)
theorem AF2.sm {X : S} (hi : L[i]? = some o) (hg : o.guard = none) (h : StepM c o s (fun s' => s' = X)) (hN : AF2 c L.toArray Q need l X) : AF2 c L.toArray Q need ((i, 0) :: l) s :=
  AF2.stepM hi hg fun g a w hs K Q' hK => h g a w hs K Q' fun g' s' a' w' e h1 h2 => hK g' s' a' w' (by subst e; exact hN) h1 h2
theorem AF2.call {post : V → Prop} (hi : L[i]? = some o) (hg : o.guard = none) (h : StepM c o s (fun s' => ∃ v, post v ∧ v.pure ∧ s' = s.put o.dst v)) (hN : ∀ v, post v → v.pure → AF2 c L.toArray Q need l (s.put o.dst v)) : AF2 c L.toArray Q need ((i, 0) :: l) s :=
  AF2.stepM hi hg fun g a w hs K Q' hK => h g a w hs K Q' fun g' s' a' w' ⟨v, h1, h2, e⟩ h3 h4 => hK g' s' a' w' (by subst e; exact hN v h1 h2) h3 h4
theorem AF2.rd1 {v : V} (hi : L[i]? = some o) (hg : o.guard = none) (hd : dok s o = true) (h : RD c o s v) (hN : AF2 c L.toArray Q need l (s.put o.dst v)) : AF2 c L.toArray Q need ((i, 0) :: l) s :=
  AF2.stepM hi hg (h.stepM hd hN)
theorem AF2.rp1 {v : V} (hi : L[i]? = some o) (hg : o.guard = none) (hd : dok s o = true) (h : RP c o s v) (hN : AF2 c L.toArray Q need l (s.put o.dst v)) : AF2 c L.toArray Q need ((i, 0) :: l) s := AF2.rd1 hi hg hd h.rd hN
theorem AF2.go (h : AF3 c L.toArray Q need l s) : AF2 c L.toArray Q need l s := fun W g a w hs _ => h _ g a w hs
theorem AF2.nil (h : Q .normal s) : AF2 c L.toArray Q need [] s := fun W g a w hs _ => ⟨g, s, h, hs⟩
theorem AF3.rp {v : V} (hi : L[i]? = some o) (hg : o.guard = none) (hd : dok s o = true) (hp : noP Q) (h : RP c o s v) (hN : AF3 c L.toArray Q need l (s.put o.dst v)) : AF3 c L.toArray Q need ((i, 2) :: l) s := fun T g a w hs => by
  obtain ⟨x, h1, h2⟩ := h g a w hs
  exact ⟨o, x, by simpa using hi, .inl ⟨by simp [Region.wanted, hg], fun w' _ => h2 w'⟩, QQ_noP hp _ _, hN T g _ w (hs.put o.dst (dok_spec hd) h1)⟩
theorem AF3.step (hi : L[i]? = some o) (hg : o.guard = none) (hn : need i = false) (h : Step c o s (AF3 c L.toArray Q need l)) : AF3 c L.toArray Q need ((i, 0) :: l) s := fun T g a w hs =>
  wpOp_of (by simpa using hi) hg (h g a w hs _ _ fun g' s' a' w' h1 h2 => ⟨fun h0 => (by rw [hn] at h0; cases h0), h1 T g' a' w' h2⟩)
theorem AF3.st {X : S} (hi : L[i]? = some o) (hg : o.guard = none) (hn : need i = false) (h : Step c o s (fun s' => s' = X)) (hN : AF3 c L.toArray Q need l X) : AF3 c L.toArray Q need ((i, 0) :: l) s :=
  AF3.step hi hg hn fun g a w hs K Q' hK => h g a w hs K Q' fun g' s' a' w' e h1 => hK g' s' a' w' (by subst e; exact hN) h1
theorem AF3.rd1 {v : V} (hi : L[i]? = some o) (hg : o.guard = none) (hn : need i = false) (hd : dok s o = true) (h : RD c o s v) (hN : AF3 c L.toArray Q need l (s.put o.dst v)) : AF3 c L.toArray Q need ((i, 0) :: l) s :=
  AF3.step hi hg hn (h.stepM hd hN).step
theorem AF3.rp1 {v : V} (hi : L[i]? = some o) (hg : o.guard = none) (hn : need i = false) (hd : dok s o = true) (h : RP c o s v) (hN : AF3 c L.toArray Q need l (s.put o.dst v)) : AF3 c L.toArray Q need ((i, 0) :: l) s := AF3.rd1 hi hg hn hd h.rd hN
theorem AF3.sm {X : S} (hi : L[i]? = some o) (hg : o.guard = none) (hn : need i = false) (h : StepM c o s (fun s' => s' = X)) (hN : AF3 c L.toArray Q need l X) : AF3 c L.toArray Q need ((i, 0) :: l) s := AF3.st hi hg hn h.step hN
theorem AF3.nil (h : Q .normal s) : AF3 c L.toArray Q need [] s := fun T g a w hs => ⟨g, s, h, hs⟩
end
end Go.Proofs.Ythlcginebeapdaa
namespace Go.Proofs.Ythlcginebeapdaa
open Go.RowKit
set_option linter.unusedSimpArgs false
set_option linter.unusedVariables false

section
variable {K : Type} [DecidableEq K]
def mfind : List (K × Int) → K → Nat → Option (Nat × Int)
  | [], _, _ => none
  | (k, v) :: l, a, i => if a = k then some (i, v) else mfind l a (i + 1)
def mget (l : List (K × Int)) (a : K) : Option Int := (mfind l a 0).map (·.2)
def mput (l : List (K × Int)) (a : K) (v : Int) : List (K × Int) := match mfind l a 0 with
  | some (i, _) => l.set i (a, v)
  | none => l ++ [(a, v)]
theorem mfind_shift (a : K) : ∀ (l : List (K × Int)) (i : Nat), mfind l a i = (mfind l a 0).map fun x => (x.1 + i, x.2)
  | [], i => rfl
  | (k, v) :: l, i => by
    simp only [mfind]
    split
    · simp
    · rw [mfind_shift a l (i + 1), mfind_shift a l (0 + 1), Option.map_map]
      congr 1
      funext x
      simp [Function.comp]; omega
theorem mfind_some {a : K} : ∀ {l : List (K × Int)} {i : Nat} {v : Int}, mfind l a 0 = some (i, v) → l[i]? = some (a, v)
  | [], i, v, h => by simp [mfind] at h
  | (k, u) :: l, i, v, h => by
    simp only [mfind] at h
    split at h
    · rename_i e
      simp only [Option.some.injEq, Prod.mk.injEq] at h
      obtain ⟨rfl, rfl⟩ := h
      simp [e]
    · rw [mfind_shift] at h
      cases h1 : mfind l a 0 with
      | none => rw [h1] at h; cases h
      | some x =>
        rw [h1] at h
        simp only [Option.map_some, Option.some.injEq, Prod.mk.injEq] at h
        obtain ⟨rfl, rfl⟩ := h
        have := mfind_some (v := x.2) (i := x.1) h1
        simpa using this
theorem mget_none {a : K} : ∀ {l : List (K × Int)}, mget l a = none ↔ ∀ x ∈ l, x.1 ≠ a
  | [] => by simp [mget, mfind]
  | (k, u) :: l => by
    have ih := mget_none (a := a) (l := l)
    simp only [mget] at ih ⊢
    simp only [mfind]
    split
    · rename_i e; simp [e]
    · rename_i e
      rw [mfind_shift]
      simp only [Option.map_map, Option.map_eq_none_iff] at ih ⊢
      rw [ih]
      simp [Ne.symm e]
theorem mget_cons (k : K) (u : Int) (l : List (K × Int)) (a : K) : mget ((k, u) :: l) a = if a = k then some u else mget l a := by
  simp only [mget, mfind]
  split
  · rfl
  · rw [mfind_shift, Option.map_map]; rfl
theorem mget_snoc {l : List (K × Int)} {k : K} {u : Int} (a : K) : mget (l ++ [(k, u)]) a = match mget l a with
  | some v => some v
  | none => if a = k then some u else none := by
  induction l with
  | nil => simp [mget_cons]; simp [mget, mfind]
  | cons x l ih =>
    obtain ⟨k', u'⟩ := x
    rw [List.cons_append, mget_cons, mget_cons, ih]
    split <;> rfl
theorem mput_new {l : List (K × Int)} {a : K} {v : Int} (h : mget l a = none) : mput l a v = l ++ [(a, v)] := by
  unfold mput
  have : mfind l a 0 = none := by simpa [mget] using h
  rw [this]
end

def mrows {K : Type} (enc : K → Value) (l : List (K × Int)) : List (Value × Value) := l.map fun x => (enc x.1, .int .i64 x.2)
/-- How keys are held against each other. -/
structure KeyOk {K : Type} [DecidableEq K] (P : Program) (k : TypeId) (enc : K → Value) : Prop where
  check : ∀ (b : Bool) (a : K) (w : World), (Instr.checkKey b 10000 k (enc a)).run P w = .ok () w
  find : ∀ (l : List (K × Int)) (a : K) (w : World), (Instr.findKey k (enc a) (ments (mrows enc l)).toList).run P w = .ok ((mfind l a 0).map fun x => (x.1, .int .i64 x.2)) w
  same : ∀ a, Instr.sameBits 10000 (enc a) (enc a) = true

theorem run_getMap {P : Program} {w : World} {r : Nat} {es : Array MapEntry} {k : Nat} (hb : w.heap[r]? = some (.map es k)) : (getObj r).run P w = .ok (.map es k) w := by simp [getObj, Sem.run, hb]
theorem run_setMap {P : Program} {w : World} {r : Nat} {es : Array MapEntry} {k : Nat} (o : Obj) (hb : w.heap[r]? = some (.map es k)) : (setObj r o).run P w = .ok () { w with heap := w.heap.setIfInBounds r o } := by simp [setObj, Sem.run, hb]
theorem findNow_int (kd : IntKind) (a : Int) : ∀ (l : List (Int × Int)) (i j : Nat), Instr.findNow (.int kd) (.int .i64 a) ((((l.map fun x => ((Value.int .i64 x.1, Value.int .i64 x.2) : Value × Value)).zipIdx j).map fun x => ({ key := x.1.1, val := x.1.2, born := x.2 } : MapEntry))) i = some ((mfind l a i).map fun x => (x.1, .int .i64 x.2))
  | [], i, j => rfl
  | (k, v) :: l, i, j => by
    simp only [List.map_cons, List.zipIdx_cons, Instr.findNow, Instr.sameNow, if_true, mfind]
    by_cases e : a = k
    · subst e; simp
    · have : (a == k) = false := by simpa using e
      simp only [this, if_neg e]
      exact findNow_int kd a l (i + 1) (j + 1)
theorem KeyOk.int {P : Program} {k : TypeId} {kd : IntKind} (hu : P.underlying k = some (.int kd)) : KeyOk P k (fun a : Int => .int .i64 a) := by
  refine ⟨fun b a w => ?_, fun l a w => ?_, fun a => ?_⟩
  · have : ∀ n : Nat, (Instr.checkKey b (n + 1) k (.int .i64 a)).run P w = .ok () w := fun n => by simp [Instr.checkKey, run_underlying hu]
    exact this 9999
  · have := findNow_int kd a l 0 0
    simp only [Instr.findKey, Sem.run_bind, run_underlying hu, Result.andThen_ok, ments, mrows, List.toList_toArray, this]
    rfl
  · have : ∀ n : Nat, Instr.sameBits n (.int .i64 a) (.int .i64 a) = true := fun n => by cases n <;> simp [Instr.sameBits]
    exact this 10000

theorem ments_push (l : List (Value × Value)) (k v : Value) : (ments l).push { key := k, val := v, born := l.length } = ments (l ++ [(k, v)]) := by
  simp [ments, List.zipIdx_append]
theorem ments_get (l : List (Value × Value)) (i : Nat) : (ments l)[i]? = l[i]?.map fun x => { key := x.1, val := x.2, born := i } := by
  simp [ments, List.getElem?_zipIdx]
  cases l[i]? <;> rfl
theorem ments_modify (l : List (Value × Value)) (i : Nat) (k v : Value) (k0 v0 : Value) (h : l[i]? = some (k0, v0)) : (ments l).modify i (fun e => { e with key := k, val := v }) = ments (l.set i (k, v)) := by
  apply Array.ext_getElem?
  intro j
  rw [Array.getElem?_modify, ments_get, ments_get, List.getElem?_set]
  have hi := (List.getElem?_eq_some_iff.1 h).1
  by_cases e : i = j
  · subst e; simp [h, hi]
  · simp [e]

mutual
/-- Does a value speak of a map? -/
def D.mps : D → Bool
  | .p _ => false
  | .sl _ _ rows => D.mpsR rows
  | .mp _ => true
  | .mm _ => true
def D.mpsL : List D → Bool
  | [] => false
  | d :: l => D.mps d || D.mpsL l
def D.mpsR : List (List D) → Bool
  | [] => false
  | r :: l => D.mpsL r || D.mpsR l
end
mutual
def V.mps : V → Bool
  | .d x => D.mps x
  | .ad l => D.mpsL l
  | .mp _ _ _ => true
  | .mq _ _ _ => true
  | .ifc _ v => V.mps v
  | .mp2 _ _ _ _ _ _ => true
  | .it _ _ _ _ => true
  | .mit _ _ _ _ _ => true
  | .mm _ _ _ => true
  | .agg l => V.mpsL l
  | .tup l => V.mpsL l
  | .fn _ l => V.mpsL l
  | _ => false
def V.mpsL : List V → Bool
  | [] => false
  | v :: l => V.mps v || V.mpsL l
end
theorem D.mpsL_false {l : List D} (h : D.mpsL l = false) : ∀ d ∈ l, D.mps d = false := by
  induction l with
  | nil => simp
  | cons x l ih =>
    simp only [D.mpsL, Bool.or_eq_false_iff] at h
    intro d hd
    rcases List.mem_cons.1 hd with rfl | hd
    · exact h.1
    · exact ih h.2 d hd
theorem D.mpsR_false {l : List (List D)} (h : D.mpsR l = false) : ∀ d ∈ l, D.mpsL d = false := by
  induction l with
  | nil => simp
  | cons x l ih =>
    simp only [D.mpsR, Bool.or_eq_false_iff] at h
    intro d hd
    rcases List.mem_cons.1 hd with rfl | hd
    · exact h.1
    · exact ih h.2 d hd
theorem V.mpsL_false {l : List V} : V.mpsL l = false ↔ ∀ d ∈ l, V.mps d = false := by
  induction l with
  | nil => simp [V.mpsL]
  | cons x l ih => simp [V.mpsL, ih]
/-- The map r now holds l; of other maps nothing is said. -/
def upM (r : Nat) (l : List (Value × Value)) : V → V
  | .mp k N _ => if k = r then .mp k N l else .junk
  | v => if v.mps then .junk else v

section
variable {c : Cx} {s : S} {o : Oper} {g : Nat → Nat × Nat} {a : Act} {w : World} {Q : Exit → S → Prop}

theorem DRep.nomap {w w' : World} {q : Nat → Prop} {x : D} {v : Value} (h : DRep w q x v) (hsz : w.heap.size ≤ w'.heap.size) (hc : ∀ (b o : Nat) (u : Value), w.cell? ⟨b, o, none⟩ = some u → w'.cell? ⟨b, o, none⟩ = some u) : x.mps = false → DRep w' q x v := by
  induction h with
  | p x => exact fun _ => .p x
  | sl sz bt rows a cap b o f hcp ha hl h1 hr ih =>
    intro hm
    simp only [D.mps] at hm
    refine .sl sz bt rows a cap b o f hcp (fun hne => ?_) hl (fun i j row u h2 h3 => hc _ _ _ (h1 i j row u h2 h3)) fun i j row u h2 h3 => ih i j row u h2 h3 (D.mpsL_false (D.mpsR_false hm row (List.mem_of_getElem? h2)) u (List.mem_of_getElem? h3))
    obtain ⟨e1, e2, e3⟩ := ha hne
    exact ⟨e1, e2, Nat.lt_of_lt_of_le e3 hsz⟩
  | mp l b hb hm => exact fun h => by simp [D.mps] at h
  | mm => exact fun h => by simp [D.mps] at h
theorem VRep.nomap {w w' : World} {q : Nat → Prop} {g : Nat → Nat × Nat} {x : V} {v : Value} (h : VRep w q g x v) (hsz : w.heap.size ≤ w'.heap.size) (hc : ∀ (b o : Nat) (u : Value), w.cell? ⟨b, o, none⟩ = some u → w'.cell? ⟨b, o, none⟩ = some u) : x.mps = false → VRep w' q g x v := by
  induction h with
  | d x v h => exact fun hm => .d x v (h.nomap hsz hc hm)
  | ad row b o f hb h1 hr => exact fun hm => .ad row b o f ⟨hb.1, Nat.lt_of_lt_of_le hb.2 hsz⟩ (fun j u hu => hc _ _ _ (h1 j u hu)) (fun j u hu => (hr j u hu).nomap hsz hc (D.mpsL_false hm u (List.mem_of_getElem? hu)))
  | ref r o => exact fun _ => .ref r o
  | own r sz n hn hcap => exact fun _ => .own r sz n hn hcap
  | ownNil r sz => exact fun _ => .ownNil r sz
  | que r sz o n a cap hn hcap h => exact fun _ => .que r sz o n a cap hn hcap h
  | agg l cs hlen h ih => exact fun hm => .agg l cs hlen fun j u c h1 h2 => ih j u c h1 h2 (V.mpsL_false.1 hm u (List.mem_of_getElem? h1))
  | tup l cs hlen h ih => exact fun hm => .tup l cs hlen fun j u c h1 h2 => ih j u c h1 h2 (V.mpsL_false.1 hm u (List.mem_of_getElem? h1))
  | fn f l cs hlen h ih => exact fun hm => .fn f l cs hlen fun j u c h1 h2 => ih j u c h1 h2 (V.mpsL_false.1 hm u (List.mem_of_getElem? h1))
  | mp r N l hN hm => exact fun h => by simp [V.mps] at h
  | mq => exact fun h => by simp [V.mps] at h
  | mp2 => exact fun h => by simp [V.mps] at h
  | it => exact fun h => by simp [V.mps] at h
  | mit => exact fun h => by simp [V.mps] at h
  | mm => exact fun h => by simp [V.mps] at h
  | ifc t v x h ih => exact fun hm => .ifc t v x (ih (by simpa [V.mps] using hm))
  | junk v => exact fun _ => .junk v

/-- A map is written to. -/
theorem Sim.upMap (hs : Sim c g s a w) {r : Nat} {l l' : List (Value × Value)} (hb : w.heap[(g r).1]? = some (.map (ments l) l.length)) (hN : c.w0.heap.size ≤ (g r).1) (hH : ∀ k row, fnd s.H k = some row → V.mpsL row.cells = false) (hK : V.mpsL s.K = false) :
    Sim c g ⟨s.n, s.T.map (fun x => (x.1, upM r l' x.2)), s.H, s.K⟩ a { w with heap := w.heap.setIfInBounds (g r).1 (.map (ments l') l'.length) } := by
  have hlt : (g r).1 < w.heap.size := (Array.getElem?_eq_some_iff.1 hb).1
  obtain ⟨w', hw'⟩ : ∃ w', w' = { w with heap := w.heap.setIfInBounds (g r).1 (.map (ments l') l'.length) } := ⟨_, rfl⟩
  have hsz : w'.heap.size = w.heap.size := by rw [hw']; simp
  have hoth : ∀ b, b ≠ (g r).1 → w'.heap[b]? = w.heap[b]? := fun b hne => by rw [hw']; simp [Array.getElem?_setIfInBounds_ne (Ne.symm hne)]
  have hnew : w'.heap[(g r).1]? = some (.map (ments l') l'.length) := by rw [hw']; simp [hlt]
  have hc : ∀ (b o : Nat) (u : Value), w.cell? ⟨b, o, none⟩ = some u → w'.cell? ⟨b, o, none⟩ = some u := by
    intro b o u h
    by_cases e : b = (g r).1
    · subst e
      simp [World.cell?, hb] at h
    · exact (World.cell?_of_block (w := w) (a := ⟨b, o, none⟩) (hoth b e)).trans h
  have hm : ∀ {v x}, v.mps = false → VRep w (qt c s.H g) g v x → VRep w' (qt c s.H g) g v x := fun hv h => h.nomap (by omega) hc hv
  rw [← hw']
  refine ⟨hs.size, hs.defers, ?_, hs.nul, ?_, ?_, hs.inj, hs.base, hs.low, ?_⟩
  · intro i v hv
    simp only at hv
    rw [fnd_map] at hv
    cases hu : fnd s.T i with
    | none => rw [hu] at hv; cases hv
    | some u =>
      rw [hu] at hv
      simp only [Option.map_some, Option.some.injEq] at hv
      obtain ⟨x, h1, h2⟩ := hs.tmp i u hu
      refine ⟨x, h1, ?_⟩
      subst hv
      have hgen : ∀ u : V, VRep w (qt c s.H g) g u x → VRep w' (qt c s.H g) g (if u.mps then .junk else u) x := by
        intro u h2
        split
        · exact .junk _
        · rename_i hne; exact hm (by simpa using hne) h2
      cases u with
      | mp k N l0 =>
        simp only [upM]
        split
        · rename_i e
          subst e
          cases h2 with
          | mp _ _ _ h3 h4 => exact .mp _ _ _ h3 hnew
        · exact .junk _
      | d _ => exact hgen _ h2
      | ad _ => exact hgen _ h2
      | ref _ _ => exact hgen _ h2
      | own _ _ _ _ => exact hgen _ h2
      | que _ _ _ _ => exact hgen _ h2
      | agg _ => exact hgen _ h2
      | tup _ => exact hgen _ h2
      | fn _ _ => exact hgen _ h2
      | mq _ _ _ => exact hgen _ h2
      | ifc _ _ => exact hgen _ h2
      | mp2 _ _ _ _ _ _ => exact hgen _ h2
      | it _ _ _ _ => exact hgen _ h2
      | mit _ _ _ _ _ => exact hgen _ h2
      | mm _ _ _ => exact hgen _ h2
      | junk => exact .junk _
  · intro k row hk hn
    obtain ⟨arr, h1, h2, h3⟩ := hs.obj k row hk hn
    refine ⟨arr, (hoth _ fun e => ?_).trans h1, h2, fun j v hv => ?_⟩
    · rw [e, hb] at h1; cases h1
    · obtain ⟨x, h4, h5⟩ := h3 j v hv
      exact ⟨x, h4, hm (V.mpsL_false.1 (hH k row hk) v (List.mem_of_getElem? hv)) h5⟩
  · intro j v x h1 h2
    exact hm (V.mpsL_false.1 hK v (List.mem_of_getElem? h1)) (hs.keep j v x h1 h2)
  · refine hs.below.trans ⟨by rw [hw'], by rw [hw'], by rw [hw'], by omega, fun k hk => hoth k ?_⟩
    omega

/-- A name that nothing speaks of may stand for anything. -/
theorem Sim.regauge (h : Sim c g s a w) {r : Nat} (hr : s.clean r = true) (p : Nat × Nat) : Sim c (fun k => if k = r then p else g k) s a w := by
  have hfr : ∀ k row', fnd s.H k = some row' → k ≠ r := fun k row' hk => (S.clean_obj hr hk).1
  have hg : ∀ k row', fnd s.H k = some row' → (if k = r then p else g k) = g k := fun k row' hk => if_neg (hfr k row' hk)
  have hq : ∀ b, qt c s.H g b → b < w.heap.size → qt c s.H (fun k => if k = r then p else g k) b := fun b hb _ => ⟨hb.1, fun k row' hk hn => by show (if k = r then p else g k).1 ≠ b; rw [hg k row' hk]; exact hb.2 k row' hk hn⟩
  have hm : ∀ v x, v.has r = false → VRep w (qt c s.H g) g v x → VRep w (qt c s.H (fun k => if k = r then p else g k)) (fun k => if k = r then p else g k) v x := fun v x hv hx => hx.mono Cells.rfl hq fun k hk => by
    have e : k ≠ r := by rintro rfl; rw [hv] at hk; cases hk
    simp [e]
  refine ⟨h.size, h.defers, ?_, h.nul, ?_, ?_, ?_, ?_, h.low, h.below⟩
  · intro i v hv
    obtain ⟨x, h1, h2⟩ := h.tmp i v hv
    exact ⟨x, h1, hm v x (S.clean_tmp hr hv) h2⟩
  · intro k row' hk hn
    obtain ⟨arr, h1, hz, h2⟩ := h.obj k row' hk hn
    simp only [hg k row' hk]
    refine ⟨arr, h1, hz, fun j v hv => ?_⟩
    obtain ⟨x, h3, h4⟩ := h2 j v hv
    exact ⟨x, h3, hm v x ((S.clean_obj hr hk).2 v (List.mem_of_getElem? hv)) h4⟩
  · intro j v x h1 h2
    exact hm v x (S.clean_keep hr h1) (h.keep j v x h1 h2)
  · intro k k' row1 row2 h1 n1 h2 n2 h3
    simp only [hg k row1 h1, hg k' row2 h2] at h3
    exact h.inj k k' _ _ h1 n1 h2 n2 h3
  · intro k row' hk hn
    simp only [hg k row' hk]
    exact h.base k _ hk hn
theorem sm_makeMap (r : Nat) {t : TypeId} (ho : o.op = .makeMap t none) (hr : s.clean r = true) (hd : dok s o = true) : StepM c o s (fun s' => s' = s.put o.dst (.mp r c.w0.heap.size [])) := by
  intro g a w hs K Q hK
  have hb : Below w.heap.size w (w.alloc (.map #[] 0)) := (Below.refl _ _).alloc (Nat.le_refl _) _
  have h1 := (hs.move hb).regauge hr (w.heap.size, 0)
  unfold Oper.wp
  have hexec : (execOp a.eval o).run c.P w = .ok (.value (.map (some w.heap.size))) (w.alloc (.map #[] 0)) := by
    simp [execOp, ho, Instr.makeMap]
  rw [hexec]
  refine hK _ _ _ _ rfl (h1.put o.dst (dok_spec hd) ?_) hb
  have := VRep.mp (w := w.alloc (.map #[] 0)) (q := qt c s.H (fun k => if k = r then (w.heap.size, 0) else g k)) (g := fun k => if k = r then (w.heap.size, 0) else g k) r c.w0.heap.size [] (by simp; exact hs.below.size) (by simp only [if_true]; exact heap_alloc_new w _)
  simpa using this

section
variable {K : Type} [DecidableEq K] {enc : K → Value}
theorem run_lookup {P : Program} {t k e : TypeId} {bt b : Nat} {l : List (K × Int)} {key : K} {ok : Bool} {w : World} (hk : KeyOk P k enc) (hu : P.underlying t = some (.map k e)) (hi : Inf P e 1 bt (.int .i64 0)) (hb : w.heap[b]? = some (.map (ments (mrows enc l)) (mrows enc l).length)) :
    (Instr.lookup t (.map (some b)) (enc key) ok).run P w = .ok (if ok then .tuple #[.int .i64 ((mget l key).getD 0), .bool (mget l key).isSome] else .int .i64 ((mget l key).getD 0)) w := by
  simp only [Instr.lookup, Sem.run_bind, run_underlying hu, Result.andThen_ok, run_getMap hb, Sem.run_pure, hk.check, hk.find]
  unfold mget
  cases h : mfind l key 0 with
  | none => cases ok <;> simp [run_zeroValue hi]
  | some x => cases ok <;> simp
theorem rd_lookup {t k e : TypeId} {bt : Nat} {x y : Operand} {ok : Bool} {r N : Nat} {l : List (K × Int)} {key : K} {v : V} (hk : KeyOk c.P k enc) (hu : c.P.underlying t = some (.map k e)) (hi : Inf c.P e 1 bt (.int .i64 0)) (ho : o.op = .lookup t x y ok) (hx : s.ev x = some (.mp r N (mrows enc l)) ∨ s.ev x = some (.d (.mp (mrows enc l)))) (hy : ∀ g a w, Sim c g s a w → a.eval y = enc key)
    (hv : v = if ok then .tup [.i ((mget l key).getD 0), .b (mget l key).isSome] else .i ((mget l key).getD 0)) : RD c o s v := fun g a w hs => by
  have hx' : ∃ b, a.eval x = .map (some b) ∧ w.heap[b]? = some (.map (ments (mrows enc l)) (mrows enc l).length) := by
    rcases hx with hx | hx
    · have h := hs.ev hx
      generalize a.eval x = u at h
      cases h with
      | mp _ _ _ hN hm => exact ⟨_, rfl, hm⟩
    · have h := hs.ev hx
      generalize a.eval x = u at h
      cases h with
      | d _ _ h =>
        cases h with
        | mp _ b hq hm => exact ⟨b, rfl, hm⟩
  obtain ⟨b, hxe, hm⟩ := hx'
  subst hv
  refine ⟨if ok then .tuple #[.int .i64 ((mget l key).getD 0), .bool (mget l key).isSome] else .int .i64 ((mget l key).getD 0), ?_, fun w' hb => ?_⟩
  · cases ok
    · exact .d _ _ (.p _)
    · refine .tup [.i ((mget l key).getD 0), .b (mget l key).isSome] [.int .i64 ((mget l key).getD 0), .bool (mget l key).isSome] rfl fun j u z hu hz => ?_
      match j, hu, hz with
      | 0, hu, hz => simp at hu hz; subst hu hz; exact .d _ _ (.p _)
      | 1, hu, hz => simp at hu hz; subst hu hz; exact .d _ _ (.p _)
      | n + 2, hu, hz => simp at hu
  · have := run_lookup (ok := ok) (key := key) hk hu hi ((hb.block _ (Array.getElem?_eq_some_iff.1 hm).1).trans hm)
    simp only [execOp, ho, hxe, hy g a w hs, Sem.run_bind, this, Result.andThen_ok]
    rfl
theorem st_mapUpdate {t k e : TypeId} {x y z : Operand} {r N : Nat} {l : List (K × Int)} {key : K} {v : Int} (hk : KeyOk c.P k enc) (hu : c.P.underlying t = some (.map k e)) (ho : o.op = .mapUpdate t x y z) (hd : o.dst = none) (hx : s.ev x = some (.mp r N (mrows enc l))) (hy : ∀ g a w, Sim c g s a w → a.eval y = enc key) (hz : s.ev z = some (.i v))
    (hN : N = c.w0.heap.size) (hH : s.H.all (fun x => !V.mpsL x.2.cells) = true) (hK : V.mpsL s.K = false) : Step c o s (fun s' => s' = ⟨s.n, s.T.map (fun x => (x.1, upM r (mrows enc (mput l key v)) x.2)), s.H, s.K⟩) := by
  subst hN
  intro g a w hs K' Q hK'
  have hx' : a.eval x = .map (some (g r).1) ∧ c.w0.heap.size ≤ (g r).1 ∧ w.heap[(g r).1]? = some (.map (ments (mrows enc l)) (mrows enc l).length) := by
    have h := hs.ev hx
    generalize a.eval x = u at h
    cases h with
    | mp _ _ _ hN hm => exact ⟨rfl, hN, hm⟩
  obtain ⟨hxe, hNb, hm⟩ := hx'
  have hrun : (Instr.mapUpdate t (.map (some (g r).1)) (enc key) (.int .i64 v)).run c.P w = .ok () { w with heap := w.heap.setIfInBounds (g r).1 (.map (ments (mrows enc (mput l key v))) (mrows enc (mput l key v)).length) } := by
    simp only [Instr.mapUpdate, Sem.run_bind, run_underlying hu, Result.andThen_ok, run_getMap hm, hk.check, hk.find]
    unfold mput
    cases h : mfind l key 0 with
    | none =>
      simp only [Option.map_none, run_setMap _ hm, ments_push]
      simp [mrows]
    | some p =>
      obtain ⟨i, v0⟩ := p
      have hget : (mrows enc l)[i]? = some (enc key, .int .i64 v0) := by simp [mrows, mfind_some h]
      have hk0 : (((ments (mrows enc l))[i]?).map (·.key)).getD (enc key) = enc key := by rw [ments_get, hget]; rfl
      simp only [Option.map_some, hk0, Instr.keyThatStays, hk.same, if_true, Sem.run_bind, Sem.run_pure, Result.andThen_ok, run_setMap _ hm, ments_modify _ _ _ _ _ _ hget]
      simp [mrows, List.map_set]
  unfold Oper.wp
  have hexec : (execOp a.eval o).run c.P w = .ok .skip { w with heap := w.heap.setIfInBounds (g r).1 (.map (ments (mrows enc (mput l key v))) (mrows enc (mput l key v)).length) } := by
    simp only [execOp, ho, hxe, hy g a w hs, VRep.p_eq (hs.ev hz), Sem.run_bind, hrun, Result.andThen_ok]
    rfl
  rw [hexec]
  simp only [Oper.upon, hd, Act.put]
  refine hK' g _ a _ rfl (hs.upMap hm hNb (fun k row hk => ?_) hK)
  have := List.all_eq_true.1 hH _ (fnd_mem hk)
  simpa using this
end
section
variable {K : Type} [DecidableEq K] {enc : K → Value}
theorem rd_lookup_hit {t k e : TypeId} {bt : Nat} {x y : Operand} {r N : Nat} {l : List (K × Int)} {key : K} {v : Int} (hk : KeyOk c.P k enc) (hu : c.P.underlying t = some (.map k e)) (hi : Inf c.P e 1 bt (.int .i64 0)) (ho : o.op = .lookup t x y true) (hx : s.ev x = some (.mp r N (mrows enc l)) ∨ s.ev x = some (.d (.mp (mrows enc l)))) (hy : ∀ g a w, Sim c g s a w → a.eval y = enc key)
    (hv : mget l key = some v) : RD c o s (.tup [.i v, .b true]) := rd_lookup (ok := true) hk hu hi ho hx hy (by rw [hv]; rfl)
theorem rd_lookup_miss {t k e : TypeId} {bt : Nat} {x y : Operand} {r N : Nat} {l : List (K × Int)} {key : K} (hk : KeyOk c.P k enc) (hu : c.P.underlying t = some (.map k e)) (hi : Inf c.P e 1 bt (.int .i64 0)) (ho : o.op = .lookup t x y true) (hx : s.ev x = some (.mp r N (mrows enc l)) ∨ s.ev x = some (.d (.mp (mrows enc l)))) (hy : ∀ g a w, Sim c g s a w → a.eval y = enc key)
    (hv : mget l key = none) : RD c o s (.tup [.i 0, .b false]) := rd_lookup (ok := true) hk hu hi ho hx hy (by rw [hv]; rfl)
end
end
section
variable (r : Nat) (l : List (Value × Value))
theorem upM_p (x : Value) : upM r l (.d (.p x)) = .d (.p x) := rfl
theorem upM_sl (sz bt : Nat) (rows : List (List D)) (h : D.mpsR rows = false) : upM r l (.d (.sl sz bt rows)) = .d (.sl sz bt rows) := by simp [upM, V.mps, D.mps, h]
theorem upM_ref (a b : Nat) : upM r l (.ref a b) = .ref a b := rfl
theorem upM_own (a b n : Nat) (z : Bool) : upM r l (.own a b n z) = .own a b n z := rfl
theorem upM_mp (N : Nat) (l0 : List (Value × Value)) : upM r l (.mp r N l0) = .mp r N l := by simp [upM]
theorem upM_junk : upM r l .junk = .junk := rfl
theorem upM_tup (x : Value) (y : Value) : upM r l (.tup [.d (.p x), .d (.p y)]) = .tup [.d (.p x), .d (.p y)] := rfl
theorem mpsR_map {α : Type} (f : α → List D) (hf : ∀ x, D.mpsL (f x) = false) : ∀ l : List α, D.mpsR (l.map f) = false
  | [] => rfl
  | x :: l => by rw [List.map_cons, D.mpsR, hf x, mpsR_map f hf l]; rfl
theorem mpsL_flat {α : Type} (f : α → List V) (hf : ∀ x, V.mpsL (f x) = false) : ∀ l : List α, V.mpsL (l.flatMap f) = false
  | [] => rfl
  | x :: l => by
    rw [List.flatMap_cons, V.mpsL_false]
    intro v hv
    rcases List.mem_append.1 hv with h | h
    · exact V.mpsL_false.1 (hf x) v h
    · exact V.mpsL_false.1 (mpsL_flat f hf l) v h
theorem mpsR_ars (l : List Ar) : D.mpsR (l.map arD) = false := mpsR_map _ (fun _ => rfl) l
theorem mpsR_sts (l : List St) : D.mpsR (l.map stD) = false := mpsR_map _ (fun x => by simp [stD, D.mpsL, D.mps, mpsR_ars]) l
end
end Go.Proofs.Ythlcginebeapdaa
namespace Go.Proofs.Ythlcginebeapdaa
open Go.RowKit
set_option linter.unusedSimpArgs false
set_option linter.unusedVariables false

section
variable {c : Cx} {s : S} {Q : Exit → S → Prop} {ops : Array Oper} {L : List Oper} {need : Nat → Bool} {l : List (Nat × Nat)} {i : Nat} {o : Oper} {T : (Nat → Nat × Nat) → World → Prop}
/-- With a relation of the region's own. -/
def AT (T : (Nat → Nat × Nat) → World → Prop) (c : Cx) (ops : Array Oper) (Q : Exit → S → Prop) (need : Nat → Bool) (l : List (Nat × Nat)) (s : S) : Prop := ∀ g a w, Sim c g s a w → ASeqF c.P ops (QQ c Q) (T g) need l a w
theorem AT.rp {v : V} (hi : L[i]? = some o) (hg : o.guard = none) (hd : dok s o = true) (hp : noP Q) (h : RP c o s v) (hN : AT T c L.toArray Q need l (s.put o.dst v)) : AT T c L.toArray Q need ((i, 2) :: l) s := fun g a w hs => by
  obtain ⟨x, h1, h2⟩ := h g a w hs
  exact ⟨o, x, by simpa using hi, .inl ⟨by simp [Region.wanted, hg], fun w' _ => h2 w'⟩, QQ_noP hp _ _, hN g _ w (hs.put o.dst (dok_spec hd) h1)⟩
variable {K : Type} [DecidableEq K] {enc : K → Value}
/-- The entry of a key: its value v, the map l1 once the entry stands, its place j. -/
structure Ent (l : List (K × Int)) (key : K) (v : Int) (l1 : List (K × Int)) (j : Nat) : Prop where
  h : (mfind l key 0 = none ∧ v = 0 ∧ l1 = l ++ [(key, 0)] ∧ j = l.length) ∨ (mfind l key 0 = some (j, v) ∧ l1 = l)
theorem Ent.get {l l1 : List (K × Int)} {key : K} {v : Int} {j : Nat} (h : Ent l key v l1 j) : (mget l key).getD 0 = v ∧ (mget l1 key).getD 0 = v ∧ l1[j]? = some (key, v) ∧ mput l key = fun u => l1.set j (key, u) := by
  rcases h.h with ⟨h1, rfl, rfl, rfl⟩ | ⟨h1, rfl⟩
  · have h0 : mget l key = none := by simp [mget, h1]
    refine ⟨by simp [h0], by rw [mget_snoc, h0]; simp, by simp, ?_⟩
    funext u
    rw [mput_new h0]
    simp
  · have h0 : mget l1 key = some v := by simp [mget, h1]
    refine ⟨by simp [h0], by simp [h0], mfind_some h1, ?_⟩
    funext u
    unfold mput
    rw [h1]
end
end Go.Proofs.Ythlcginebeapdaa
namespace Go.Proofs.Ythlcginebeapdaa
open Go.RowKit
set_option linter.unusedSimpArgs false
set_option linter.unusedVariables false

def ahd (a b : Ar) : Bool := if a.i ≠ b.i then decide (a.i < b.i) else if a.o ≠ b.o then decide (a.o < b.o) else if a.t ≠ b.t then decide (a.t < b.t) else decide (a.w < b.w)
theorem ahd_iff {a b : Ar} : ahd a b = true ↔ a.i < b.i ∨ a.i = b.i ∧ (a.o < b.o ∨ a.o = b.o ∧ (a.t < b.t ∨ a.t = b.t ∧ a.w < b.w)) := by
  unfold ahd
  by_cases h1 : a.i = b.i
  · by_cases h2 : a.o = b.o
    · by_cases h3 : a.t = b.t
      · simp [h1, h2, h3]
      · simp [h1, h2, h3]
    · simp [h1, h2]
  · simp [h1]
theorem ahd_trans {a b x : Ar} (h1 : ahd a b = false) (h2 : ahd b x = false) : ahd a x = false := by
  rw [Bool.eq_false_iff] at h1 h2 ⊢
  rw [ne_eq, ahd_iff] at h1 h2 ⊢
  omega
def cntP (p : Int × Int) (l : List Ar) : Nat := (l.filter fun a => decide ((a.i, a.o) = p)).length
theorem cntP_snoc {l : List Ar} {i : Nat} {a : Ar} (h : l[i]? = some a) (p : Int × Int) : cntP p (l.take (i + 1)) = cntP p (l.take i) + if p = (a.i, a.o) then 1 else 0 := by
  rw [take_snoc h]
  unfold cntP
  by_cases e : (a.i, a.o) = p
  · simp [e]
  · simp [e, Ne.symm e]
section
variable {K : Type} [DecidableEq K]
theorem mput_cons (k : K) (u : Int) (l : List (K × Int)) (a : K) (v : Int) : mput ((k, u) :: l) a v = if a = k then (a, v) :: l else (k, u) :: mput l a v := by
  unfold mput
  simp only [mfind]
  by_cases e : a = k
  · simp [e]
  · rw [if_neg e, if_neg e, mfind_shift]
    cases mfind l a 0 <;> simp
theorem mget_mput (a : K) (v : Int) (b : K) : ∀ l : List (K × Int), mget (mput l a v) b = if b = a then some v else mget l b
  | [] => by
    have : mput ([] : List (K × Int)) a v = [(a, v)] := rfl
    rw [this, mget_cons]
  | (k, u) :: l => by
    rw [mput_cons]
    by_cases e : a = k
    · subst e
      rw [if_pos rfl, mget_cons, mget_cons]
      split <;> rfl
    · rw [if_neg e, mget_cons, mget_mput a v b l, mget_cons]
      by_cases e2 : b = k
      · subst e2
        rw [if_pos rfl, if_neg (Ne.symm e), if_pos rfl]
      · rw [if_neg e2, if_neg e2]
theorem mput_len (a : K) (v : Int) : ∀ l : List (K × Int), (mput l a v).length ≤ l.length + 1
  | [] => by simp [mput, mfind]
  | (k, u) :: l => by
    rw [mput_cons]
    have := mput_len a v l
    split <;> simp
    omega
end
/-- The map tells how often each pair has been seen. -/
structure Seen (M : List ((Int × Int) × Int)) (l : List Ar) : Prop where
  cnt : ∀ p, (mget M p).getD 0 = (cntP p l : Int)
  len : M.length ≤ l.length
theorem Seen.nil : Seen [] [] := ⟨fun p => rfl, Nat.le_refl _⟩
theorem Seen.step {M : List ((Int × Int) × Int)} {l : List Ar} {i : Nat} {a : Ar} (h : Seen M (l.take i)) (ha : l[i]? = some a) : Seen (mput M (a.i, a.o) ((cntP (a.i, a.o) (l.take i) : Int) + 1)) (l.take (i + 1)) := by
  refine ⟨fun p => ?_, ?_⟩
  · rw [mget_mput, cntP_snoc ha]
    by_cases e : p = (a.i, a.o)
    · subst e; simp
    · rw [if_neg e, if_neg e, h.cnt p]; simp
  · have h1 := mput_len (a.i, a.o) ((cntP (a.i, a.o) (l.take i) : Int) + 1) M
    have h2 := h.len
    have h3 := (List.getElem?_eq_some_iff.1 ha).1
    rw [List.length_take] at h2 ⊢
    omega

end Go.Proofs.Ythlcginebeapdaa
namespace Go.Proofs.Ythlcginebeapdaa
open Go.RowKit
set_option linter.unusedSimpArgs false
set_option linter.unusedVariables false

theorem ahd_irr (a : Ar) : ahd a a = false := by
  rw [Bool.eq_false_iff, ne_eq, ahd_iff]
  omega
theorem ahd_total {a b : Ar} (h1 : ahd a b = false) (h2 : ahd b a = false) : a = b := by
  rw [Bool.eq_false_iff, ne_eq, ahd_iff] at h1 h2
  obtain ⟨ai, ao, aw, at'⟩ := a
  obtain ⟨bi, bo, bw, bt⟩ := b
  simp only at h1 h2
  obtain rfl : ai = bi := by omega
  obtain rfl : ao = bo := by omega
  obtain rfl : at' = bt := by omega
  obtain rfl : aw = bw := by omega
  rfl
theorem ahd_asym {a b : Ar} (h : ahd a b = true) : ahd b a = false := by
  rw [Bool.eq_false_iff, ne_eq, ahd_iff]
  rw [ahd_iff] at h
  omega
theorem ahd_trans1 {a b x : Ar} (h1 : ahd a b = true) (h2 : ahd b x = true) : ahd a x = true := by
  rw [ahd_iff] at *
  omega
/-- An order without ties. -/
structure Tot (lt : Ar → Ar → Bool) : Prop where
  irr : ∀ a, lt a a = false
  tr : ∀ a b x, lt a b = false → lt b x = false → lt a x = false
  one : ∀ a b, lt a b = false → lt b a = false → a = b
  asy : ∀ a b, lt a b = true → lt b a = false
theorem tot_ahd : Tot ahd := ⟨ahd_irr, fun _ _ _ => ahd_trans, fun _ _ => ahd_total, fun _ _ => ahd_asym⟩
abbrev Sd (lt : Ar → Ar → Bool) (l : List Ar) : Prop := l.Pairwise fun x y => lt y x = false
theorem sd_uniq {lt : Ar → Ar → Bool} (hT : Tot lt) : ∀ {l l' : List Ar}, Sd lt l → Sd lt l' → l.Perm l' → l = l'
  | [], l', _, _, h => (List.Perm.nil_eq h)
  | x :: l, [], _, _, h => by have := h.length_eq; simp at this
  | x :: l, y :: l', h1, h2, h => by
    have a1 := List.pairwise_cons.1 h1
    have a2 := List.pairwise_cons.1 h2
    have hxy : x = y := by
      have hx : x ∈ y :: l' := h.mem_iff.1 (by simp)
      have hy : y ∈ x :: l := h.mem_iff.2 (by simp)
      rcases List.mem_cons.1 hx with e | hx
      · exact e
      · rcases List.mem_cons.1 hy with e | hy
        · exact e.symm
        · exact hT.one _ _ (a2.1 x hx) (a1.1 y hy)
    subst hxy
    rw [sd_uniq hT a1.2 a2.2 (List.Perm.cons_inv h)]
/-- An arc put where it belongs. -/
def plc (a : Ar) : List Ar → List Ar
  | [] => [a]
  | x :: l => if ahd a x = true then a :: x :: l else x :: plc a l
theorem plc_perm (a : Ar) : ∀ l : List Ar, (plc a l).Perm (a :: l)
  | [] => List.Perm.refl _
  | x :: l => by
    unfold plc
    split
    · exact List.Perm.refl _
    · exact (List.Perm.cons x (plc_perm a l)).trans (List.Perm.swap a x l)
theorem plc_sd (a : Ar) : ∀ {l : List Ar}, Sd ahd l → Sd ahd (plc a l)
  | [], _ => by simp [plc]
  | x :: l, h => by
    have h1 := List.pairwise_cons.1 h
    unfold plc
    split
    · rename_i hx
      refine List.pairwise_cons.2 ⟨fun y hy => ?_, h⟩
      rcases List.mem_cons.1 hy with rfl | hy
      · exact ahd_asym hx
      · exact ahd_trans (h1.1 y hy) (ahd_asym hx)
    · rename_i hx
      refine List.pairwise_cons.2 ⟨fun y hy => ?_, plc_sd a h1.2⟩
      rcases List.mem_cons.1 ((plc_perm a l).mem_iff.1 hy) with rfl | hy
      · simpa using hx
      · exact h1.1 y hy
theorem plc_lt {a : Ar} {B : List Ar} : ∀ {A : List Ar}, (∃ y ∈ A, ahd a y = true) → plc a (A ++ B) = plc a A ++ B
  | [], h => by obtain ⟨y, hy, _⟩ := h; cases hy
  | x :: A, h => by
    simp only [List.cons_append, plc]
    split
    · simp
    · rename_i hx
      obtain ⟨y, hy, hlt⟩ := h
      rcases List.mem_cons.1 hy with rfl | hy
      · exact absurd hlt hx
      · rw [plc_lt ⟨y, hy, hlt⟩]; simp
theorem plc_ge {a : Ar} {B : List Ar} : ∀ {A : List Ar}, (∀ y ∈ A, ¬ ahd a y = true) → plc a (A ++ B) = A ++ plc a B
  | [], _ => rfl
  | x :: A, h => by
    simp only [List.cons_append, plc]
    rw [if_neg (h x (by simp)), plc_ge fun y hy => h y (by simp [hy])]
theorem plc_len (a : Ar) (l : List Ar) : (plc a l).length = l.length + 1 := by
  have := (plc_perm a l).length_eq
  simpa using this
def inO (l : List Ar) : List Ar := l.foldl (fun out a => plc a out) []
theorem inO_snoc {l : List Ar} {i : Nat} {a : Ar} (h : l[i]? = some a) : inO (l.take (i + 1)) = plc a (inO (l.take i)) := by rw [take_snoc h]; simp [inO]
theorem inO_both (l : List Ar) : ∀ out : List Ar, Sd ahd out → Sd ahd (l.foldl (fun out a => plc a out) out) ∧ (l.foldl (fun out a => plc a out) out).Perm (l ++ out) := by
  induction l with
  | nil => intro out h; exact ⟨h, List.Perm.refl _⟩
  | cons a l ih =>
    intro out h
    obtain ⟨h1, h2⟩ := ih (plc a out) (plc_sd a h)
    refine ⟨h1, h2.trans ?_⟩
    exact (List.Perm.append_left l (plc_perm a out)).trans List.perm_middle
theorem inO_sd (l : List Ar) : Sd ahd (inO l) := (inO_both l [] List.Pairwise.nil).1
theorem inO_perm (l : List Ar) : (inO l).Perm l := by
  have := (inO_both l [] List.Pairwise.nil).2
  rwa [List.append_nil] at this
theorem inO_len (l : List Ar) : (inO l).length = l.length := (inO_perm l).length_eq
/-- Of those that are alike but for the weight the first. -/
def lst : List Ar → List Ar
  | [] => []
  | a :: l => a :: lstA a l
where
  lstA : Ar → List Ar → List Ar
  | _, [] => []
  | p, b :: l => if b.i = p.i ∧ b.o = p.o ∧ b.t = p.t then lstA b l else b :: lstA b l
def alk (b p : Ar) : Bool := decide (b.i = p.i ∧ b.o = p.o ∧ b.t = p.t)
theorem lstA_snoc : ∀ {r : List Ar} {i : Nat} {a x p : Ar}, r[i]? = some x → (a :: r)[i]? = some p → lst.lstA a (r.take (i + 1)) = lst.lstA a (r.take i) ++ (if alk x p = true then [] else [x])
  | [], i, a, x, p, hx, _ => by simp at hx
  | y :: r, 0, a, x, p, hx, hp => by
    simp at hx hp
    subst hx hp
    simp only [List.take_succ_cons, List.take_zero, lst.lstA, alk, decide_eq_true_eq, List.nil_append]
  | y :: r, i + 1, a, x, p, hx, hp => by
    have ih := lstA_snoc (r := r) (i := i) (a := y) (x := x) (p := p) (by simpa using hx) (by simpa using hp)
    simp only [List.take_succ_cons] at ih ⊢
    simp only [lst.lstA]
    split
    · exact ih
    · rw [ih]; rfl
theorem lst_snoc {l : List Ar} {i : Nat} {x p : Ar} (hx : l[i + 1]? = some x) (hp : l[i]? = some p) : lst (l.take (i + 2)) = lst (l.take (i + 1)) ++ (if alk x p = true then [] else [x]) := by
  cases l with
  | nil => simp at hx
  | cons a r =>
    simp only [List.take_succ_cons, lst]
    rw [lstA_snoc (by simpa using hx) hp]; rfl
theorem lst_one {l : List Ar} {x : Ar} (hx : l[0]? = some x) : lst (l.take 1) = [x] := by
  cases l with
  | nil => simp at hx
  | cons a r => simp at hx; subst hx; rfl
theorem lstA_len : ∀ (l : List Ar) (a : Ar), (lst.lstA a l).length ≤ l.length
  | [], _ => Nat.le_refl _
  | b :: l, a => by
    have := lstA_len l b
    simp only [lst.lstA]
    split <;> simp <;> omega
theorem lst_len (l : List Ar) : (lst l).length ≤ l.length := by
  cases l with
  | nil => exact Nat.le_refl _
  | cons a l => have := lstA_len l a; simp [lst]; exact this
def inL (l : List Ar) : List Ar := lst (inO l)
end Go.Proofs.Ythlcginebeapdaa
namespace Go.Proofs.Ythlcginebeapdaa
open Go.RowKit
set_option linter.unusedSimpArgs false
set_option linter.unusedVariables false

def emp (a : Ar) : Bool := decide (a.i = 0 ∧ a.o = 0)
/-- Empty arcs. -/
def eE (sts : List St) (q p w : Nat) : Prop := ∃ a ∈ stA sts q, emp a = true ∧ a.t = (p : Int) ∧ a.w = (w : Int)
def eI (q p d : Nat) : Prop := p = q ∧ d = 0
/-- What a state costs from one state, by its empty arcs alone. -/
def mnS (p : Nat) (x : Nat) (a : Ar) : Nat := if emp a = true ∧ a.t = (p : Int) ∧ a.w < (x : Int) then a.w.toNat else x
def mnA (p : Nat) (x : Nat) (l : List Ar) : Nat := l.foldl (mnS p) x
theorem mnA_snoc (p x : Nat) {l : List Ar} {i : Nat} {a : Ar} (h : l[i]? = some a) : mnA p x (l.take (i + 1)) = mnS p (mnA p x (l.take i)) a := by
  rw [take_snoc h]; simp [mnA]
theorem mnS_le (p x : Nat) (a : Ar) : mnS p x a ≤ x := by unfold mnS; split <;> omega
theorem mnA_le (p : Nat) : ∀ (l : List Ar) (x : Nat), mnA p x l ≤ x
  | [], x => Nat.le_refl _
  | a :: l, x => Nat.le_trans (mnA_le p l (mnS p x a)) (mnS_le p x a)
theorem mnA_arc (p : Nat) {a : Ar} (he : emp a = true) (ht : a.t = (p : Int)) : ∀ (l : List Ar) (x : Nat), a ∈ l → mnA p x l ≤ a.w.toNat
  | [], x, h => by cases h
  | b :: l, x, h => by
    rcases List.mem_cons.1 h with rfl | h
    · refine Nat.le_trans (mnA_le p l _) ?_
      unfold mnS
      split
      · exact Nat.le_refl _
      · rename_i hn
        have : ¬ a.w < (x : Int) := fun hx => hn ⟨he, ht, hx⟩
        omega
    · exact mnA_arc p he ht l _ h
theorem mnA_is (p : Nat) : ∀ (l : List Ar) (x : Nat), mnA p x l = x ∨ ∃ a ∈ l, emp a = true ∧ a.t = (p : Int) ∧ mnA p x l = a.w.toNat
  | [], x => .inl rfl
  | b :: l, x => by
    rcases mnA_is p l (mnS p x b) with h | ⟨a, h1, h2⟩
    · by_cases hc : emp b = true ∧ b.t = (p : Int) ∧ b.w < (x : Int)
      · refine .inr ⟨b, by simp, hc.1, hc.2.1, ?_⟩
        show mnA p (mnS p x b) l = _
        rw [h]; unfold mnS; rw [if_pos hc]
      · refine .inl ?_
        show mnA p (mnS p x b) l = _
        rw [h]; unfold mnS; rw [if_neg hc]
    · exact .inr ⟨a, by simp [h1], h2⟩

theorem arcs_le {l : List St} {x : St} (h : x ∈ l) : x.arcs.length ≤ arcN l := by
  obtain ⟨i, hi⟩ := List.getElem?_of_mem h
  induction l generalizing i with
  | nil => cases h
  | cons y l ih =>
    cases i with
    | zero => simp at hi; subst hi; simp [arcN]
    | succ i =>
      have := ih (List.mem_of_getElem? (by simpa using hi)) i (by simpa using hi)
      simp only [arcN, List.map_cons, List.sum_cons] at this ⊢
      omega
def upd (k : Nat) (D : Nat → Nat → Nat) (q p : Nat) : Nat := min (D q p) (D q k + D k p)
def fwI (q p : Nat) : Nat := if p = q then 0 else big
def fw (sts : List St) : Nat → Nat → Nat → Nat
  | 0 => fun q p => mnA p (fwI q p) (stA sts q)
  | k + 1 => upd k (fw sts k)

theorem pth_app {E : Nat → Nat → Nat → Prop} {q r p d d' : Nat} (h : Pth (eI q) E r d) (h' : Pth (eI r) E p d') : Pth (eI q) E p (d + d') := by
  induction h' with
  | init p d0 h0 =>
    obtain ⟨rfl, rfl⟩ := h0
    exact h
  | step p s d0 w h1 e ih =>
    rw [← Nat.add_assoc]
    exact .step _ _ _ _ ih e
structure FwOk (sts : List St) (k : Nat) (D : Nat → Nat → Nat) : Prop where
  le : ∀ q p, D q p ≤ big
  diag : ∀ q, D q q = 0
  path : ∀ q p, D q p < big → Pth (eI q) (eE sts) p (D q p)
  edge : ∀ q p w, eE sts q p w → D q p ≤ w
  tri : ∀ j q p, j < k → D q p ≤ D q j + D j p
theorem fw_ok {sts : List St} (hw : ∀ q, ∀ a ∈ stA sts q, 0 ≤ a.w) : ∀ k, FwOk sts k (fw sts k)
  | 0 => by
    have h0 : ∀ q p, fwI q p ≤ big := fun q p => by unfold fwI; split <;> omega
    refine ⟨fun q p => Nat.le_trans (mnA_le p _ _) (h0 q p), fun q => ?_, fun q p hb => ?_, fun q p w he => ?_, fun j q p hj => absurd hj (by omega)⟩
    · have := mnA_le q (stA sts q) (fwI q q)
      have e : fwI q q = 0 := by simp [fwI]
      rw [e] at this
      show mnA q (fwI q q) (stA sts q) = 0
      rw [e]; omega
    · have hb' : mnA p (fwI q p) (stA sts q) < big := hb
      show Pth (eI q) (eE sts) p (mnA p (fwI q p) (stA sts q))
      rcases mnA_is p (stA sts q) (fwI q p) with h | ⟨a, h1, h2, h3, h4⟩
      · rw [h] at hb' ⊢
        unfold fwI at hb' ⊢
        by_cases e : p = q
        · rw [if_pos e]; exact .init _ _ ⟨e, rfl⟩
        · rw [if_neg e] at hb'; omega
      · rw [h4]
        have := Pth.step (Init := eI q) (Edge := eE sts) q p 0 a.w.toNat (.init _ _ ⟨rfl, rfl⟩) ⟨a, h1, h2, h3, by have := hw q a h1; omega⟩
        simpa using this
    · obtain ⟨a, h1, h2, h3, h4⟩ := he
      have := mnA_arc p h2 h3 (stA sts q) (fwI q p) h1
      show mnA p (fwI q p) (stA sts q) ≤ w
      omega
  | k + 1 => by
    have ih := fw_ok hw k
    generalize hD : fw sts k = D at ih
    show FwOk sts (k + 1) (upd k (fw sts k))
    rw [hD]
    refine ⟨fun q p => ?_, fun q => ?_, fun q p hb => ?_, fun q p w he => ?_, fun j q p hj => ?_⟩
    · have := ih.le q p
      unfold upd; omega
    · have := ih.diag q
      unfold upd; omega
    · unfold upd at hb ⊢
      by_cases hc : D q p ≤ D q k + D k p
      · rw [Nat.min_eq_left hc] at hb ⊢; exact ih.path q p hb
      · rw [Nat.min_eq_right (by omega)] at hb ⊢
        exact pth_app (ih.path q k (by omega)) (ih.path k p (by omega))
    · have := ih.edge q p w he
      unfold upd; omega
    · by_cases e : j = k
      · subst e
        have h1 := ih.diag j
        unfold upd
        omega
      · have h1 := ih.tri j q p (by omega)
        have h2 := ih.tri j k p (by omega)
        have h3 := ih.tri j q k (by omega)
        unfold upd
        omega
theorem fw_get (sts : List St) (k q p : Nat) : fw sts (k + 1) q p = min (fw sts k q p) (fw sts k q k + fw sts k k p) := rfl
theorem fw_row {sts : List St} (hw : ∀ q, ∀ a ∈ stA sts q, 0 ≤ a.w) (k p : Nat) : fw sts (k + 1) k p = fw sts k k p := by
  have := (fw_ok hw k).diag k
  rw [fw_get]; omega
theorem fw_col {sts : List St} (hw : ∀ q, ∀ a ∈ stA sts q, 0 ≤ a.w) (k q : Nat) : fw sts (k + 1) q k = fw sts k q k := by
  have := (fw_ok hw k).diag k
  rw [fw_get]; omega
/-- What each state costs from one, along empty arcs. -/
noncomputable def hop (sts : List St) (q p : Nat) : Nat := dst (eI q) (eE sts) p
theorem eE_lt {sts : List St} {q p w : Nat} (h : eE sts q p w) : q < sts.length := by
  obtain ⟨a, h1, _⟩ := h
  by_cases hq : q < sts.length
  · exact hq
  · rw [stA, List.getD_eq_getElem?_getD, List.getElem?_eq_none (by omega)] at h1
    simp at h1
theorem fw_hop {sts : List St} (hw : ∀ q, ∀ a ∈ stA sts q, 0 ≤ a.w) {n : Nat} (hn : sts.length = n) {q p : Nat} (hp : p < n) : fw sts n q p = hop sts q p := by
  have ho := fw_ok hw n
  have hl : bl (fw sts n q) n = dstL (eI q) (eE sts) n := by
    refine (Lst.of_closed ⟨bl_len _ _, fun r x h => ?_, fun r x h hb => ?_, fun r x d h hi => ?_⟩ (fun r s w h => hn ▸ eE_lt h) fun r s w x y h h1 hb h2 => ?_).eq
    · obtain ⟨_, rfl⟩ := bl_inv h; exact ho.le q r
    · obtain ⟨_, rfl⟩ := bl_inv h; exact ho.path q r hb
    · obtain ⟨_, rfl⟩ := bl_inv h
      obtain ⟨rfl, rfl⟩ := hi
      rw [ho.diag]; exact Nat.le_refl _
    · obtain ⟨_, rfl⟩ := bl_inv h1
      obtain ⟨_, rfl⟩ := bl_inv h2
      have a1 := ho.edge r s w h
      have a2 := ho.tri r q s (hn ▸ eE_lt h)
      omega
  have h1 : (bl (fw sts n q) n)[p]? = (dstL (eI q) (eE sts) n)[p]? := by rw [hl]
  rw [bl_get hp] at h1
  have h2 : (dstL (eI q) (eE sts) n)[p]? = some (dst (eI q) (eE sts) p) := by simp [dstL, List.getElem?_range hp]
  rw [h2] at h1
  exact Option.some.inj h1

/-- Settling the nearest: what is known of costs and of what is settled. -/
structure Nr (sts : List St) (q n : Nat) (L : List Nat) (Dn : List Bool) (k : Nat) : Prop where
  snd : Snd (eI q) (eE sts) n L
  dl : Dn.length = n
  cnt : Dn.count true = k
  bnd : ∀ (r x : Nat), L[r]? = some x → x < big → x ≤ k * 1000000000
  dn : ∀ (r x : Nat), Dn[r]? = some true → L[r]? = some x → x < big
  low : ∀ (r p x y : Nat), Dn[r]? = some true → Dn[p]? = some false → L[r]? = some x → L[p]? = some y → x ≤ y
  cl : ∀ (r p w x y : Nat), Dn[r]? = some true → eE sts r p w → L[r]? = some x → L[p]? = some y → y ≤ x + w
theorem nr_first (sts : List St) (q n : Nat) : Nr sts q n (bl (fwI q) n) (List.replicate n false) 0 := by
  have hF : ∀ r, (List.replicate n false)[r]? ≠ some true := fun r h => by
    rw [List.getElem?_replicate] at h
    split at h
    · simp at h
    · cases h
  refine ⟨⟨bl_len _ _, fun r x h => ?_, fun r x h hb => ?_, fun r x d h hi => ?_⟩, by simp, by simp [List.count_replicate], fun r x h hb => ?_, fun r x h => absurd h (hF r), fun r p x y h => absurd h (hF r), fun r p w x y h => absurd h (hF r)⟩
  all_goals obtain ⟨_, rfl⟩ := bl_inv h
  · unfold fwI; split <;> omega
  · unfold fwI at hb ⊢
    by_cases e : r = q
    · rw [if_pos e]; exact .init _ _ ⟨e, rfl⟩
    · rw [if_neg e] at hb; omega
  · obtain ⟨rfl, rfl⟩ := hi
    simp [fwI]
  · unfold fwI at hb ⊢
    by_cases e : r = q
    · rw [if_pos e]; omega
    · rw [if_neg e] at hb; omega
/-- All that can be had is settled. -/
theorem Nr.done {sts : List St} {q n k : Nat} {L : List Nat} {Dn : List Bool} (h : Nr sts q n L Dn k) (hn : sts.length = n) (hu : ∀ r x : Nat, Dn[r]? = some false → L[r]? = some x → x = big) : L = bl (hop sts q) n := by
  refine (Lst.of_closed h.snd (fun r s w h => hn ▸ eE_lt h) fun r p w x y e hx hb hy => ?_).eq
  have hr : r < n := hn ▸ eE_lt e
  obtain ⟨b, hb'⟩ := get_lt h.dl hr
  cases b with
  | true => exact h.cl r p w x y hb' e hx hy
  | false => have := hu r x hb' hx; omega
/-- One is settled: its arcs are gone through. -/
structure NrI (sts : List St) (q n s x0 : Nat) (L : List Nat) (Dn : List Bool) (k : Nat) (A : List Ar) : Prop where
  snd : Snd (eI q) (eE sts) n L
  dl : Dn.length = n
  cnt : Dn.count true = k + 1
  bnd : ∀ (r x : Nat), L[r]? = some x → x < big → x ≤ (k + 1) * 1000000000
  dn : ∀ (r x : Nat), Dn[r]? = some true → L[r]? = some x → x ≤ x0
  und : ∀ (r x : Nat), Dn[r]? = some false → L[r]? = some x → x0 ≤ x
  cl : ∀ (r p w x y : Nat), r ≠ s → Dn[r]? = some true → eE sts r p w → L[r]? = some x → L[p]? = some y → y ≤ x + w
  sx : L[s]? = some x0
  sd : Dn[s]? = some true
  xb : x0 < big
  xk : x0 ≤ k * 1000000000
  arcs : ∀ a ∈ A, emp a = true → ∀ (p y : Nat), a.t = (p : Int) → L[p]? = some y → y ≤ x0 + a.w.toNat
theorem count_on : ∀ (L : List Bool) {x : Nat}, L[x]? = some false → (L.set x true).count true = L.count true + 1
  | [], x, h => by simp at h
  | b :: L, 0, h => by simp at h; subst h; simp
  | b :: L, x + 1, h => by
    have := count_on L (x := x) (by simpa using h)
    cases b <;> simp <;> omega
theorem Nr.take {sts : List St} {q n s x0 k : Nat} {L : List Nat} {Dn : List Bool} (h : Nr sts q n L Dn k) (hs : Dn[s]? = some false) (hx : L[s]? = some x0) (hb : x0 < big) (hm : ∀ r x : Nat, Dn[r]? = some false → L[r]? = some x → x0 ≤ x) : NrI sts q n s x0 L (Dn.set s true) k [] := by
  have hlt : s < Dn.length := (List.getElem?_eq_some_iff.1 hs).1
  have hold : ∀ r b, r ≠ s → (Dn.set s true)[r]? = some b → Dn[r]? = some b := fun r b hr h => by rwa [List.getElem?_set_ne (Ne.symm hr)] at h
  refine ⟨h.snd, by simp [h.dl], by rw [count_on Dn hs, h.cnt], fun r x h1 h2 => ?_, fun r x h1 h2 => ?_, fun r x h1 h2 => ?_, fun r p w x y h0 h1 e h2 h3 => h.cl r p w x y (hold r _ h0 h1) e h2 h3, hx, by simp [hlt], hb, h.bnd s x0 hx hb, fun a ha => by cases ha⟩
  · exact Nat.le_trans (h.bnd r x h1 h2) (Nat.mul_le_mul_right _ (Nat.le_succ k))
  · by_cases e : r = s
    · subst e; rw [hx] at h2; simp at h2; omega
    · exact h.low r s x x0 (hold r _ e h1) hs h2 hx
  · by_cases e : r = s
    · subst e; simp [hlt] at h1
    · exact hm r x (hold r _ e h1) h2
theorem NrI.skip {sts : List St} {q n s x0 k i : Nat} {L : List Nat} {Dn : List Bool} {l : List Ar} {a : Ar} (h : NrI sts q n s x0 L Dn k (l.take i)) (hi : l[i]? = some a) (ha : emp a = true → ∀ (p y : Nat), a.t = (p : Int) → L[p]? = some y → y ≤ x0 + a.w.toNat) : NrI sts q n s x0 L Dn k (l.take (i + 1)) :=
  ⟨h.snd, h.dl, h.cnt, h.bnd, h.dn, h.und, h.cl, h.sx, h.sd, h.xb, h.xk, fun b hb => by
    rw [take_snoc hi] at hb
    rcases List.mem_append.1 hb with hb | hb
    · exact h.arcs b hb
    · simp only [List.mem_singleton] at hb
      subst hb; exact ha⟩
theorem NrI.less {sts : List St} {q n s x0 k i p y w : Nat} {L : List Nat} {Dn : List Bool} {l : List Ar} {a : Ar} (h : NrI sts q n s x0 L Dn k (l.take i)) (hl : stA sts s = l) (hi : l[i]? = some a) (he : emp a = true) (hp : a.t = (p : Int)) (hpn : p < n) (hw : a.w = (w : Int)) (hwm : w ≤ 1000000000) (hy : L[p]? = some y) (hlt : x0 + w < y) : NrI sts q n s x0 (L.set p (x0 + w)) Dn k (l.take (i + 1)) := by
  have hE : eE sts s p w := ⟨a, by rw [hl]; exact List.mem_of_getElem? hi, he, hp, hw⟩
  have hpl : p < L.length := (List.getElem?_eq_some_iff.1 hy).1
  have hyb := h.snd.le p y hy
  have hpd : Dn[p]? = some false := by
    obtain ⟨b, hb⟩ := get_lt h.dl hpn
    cases b with
    | false => exact hb
    | true => have := h.dn p y hb hy; omega
  have hps : p ≠ s := by rintro rfl; rw [h.sd] at hpd; cases hpd
  have hset : ∀ r z : Nat, (L.set p (x0 + w))[r]? = some z → r = p ∧ z = x0 + w ∨ r ≠ p ∧ L[r]? = some z := fun r z hr => by
    by_cases e : r = p
    · subst e; rw [List.getElem?_set_self hpl] at hr; simp at hr; exact .inl ⟨rfl, hr.symm⟩
    · rw [List.getElem?_set_ne (Ne.symm e)] at hr; exact .inr ⟨e, hr⟩
  refine ⟨h.snd.set hE h.sx h.xb fun y' hy' => by rw [hy] at hy'; simp at hy'; omega, h.dl, h.cnt, fun r z h1 h2 => ?_, fun r z h1 h2 => ?_, fun r z h1 h2 => ?_, fun r t v x z h0 h1 e h2 h3 => ?_, by rw [List.getElem?_set_ne hps]; exact h.sx, h.sd, h.xb, h.xk, fun b hb hbe t z ht hz => ?_⟩
  · rcases hset r z h1 with ⟨_, rfl⟩ | ⟨_, h3⟩
    · have := h.xk; omega
    · exact h.bnd r z h3 h2
  · rcases hset r z h2 with ⟨rfl, _⟩ | ⟨_, h3⟩
    · rw [hpd] at h1; cases h1
    · exact h.dn r z h1 h3
  · rcases hset r z h2 with ⟨_, rfl⟩ | ⟨_, h3⟩
    · omega
    · exact h.und r z h1 h3
  · rcases hset r x h2 with ⟨rfl, _⟩ | ⟨_, h4⟩
    · rw [hpd] at h1; cases h1
    · rcases hset t z h3 with ⟨rfl, rfl⟩ | ⟨_, h5⟩
      · have := h.cl r t v x y h0 h1 e h4 hy; omega
      · exact h.cl r t v x z h0 h1 e h4 h5
  · rw [take_snoc hi] at hb
    rcases hset t z hz with ⟨rfl, rfl⟩ | ⟨h4, h5⟩
    · rcases List.mem_append.1 hb with hb | hb
      · have := h.arcs b hb hbe t y ht hy; omega
      · simp only [List.mem_singleton] at hb
        subst hb; omega
    · rcases List.mem_append.1 hb with hb | hb
      · exact h.arcs b hb hbe t z ht h5
      · simp only [List.mem_singleton] at hb
        subst hb
        exact absurd (by omega) h4
theorem NrI.done {sts : List St} {q n s x0 k : Nat} {L : List Nat} {Dn : List Bool} {l : List Ar} (h : NrI sts q n s x0 L Dn k l) (hl : stA sts s = l) : Nr sts q n L Dn (k + 1) := by
  refine ⟨h.snd, h.dl, h.cnt, h.bnd, fun r x h1 h2 => ?_, fun r p x y h1 h2 h3 h4 => ?_, fun r p w x y h1 e h2 h3 => ?_⟩
  · have := h.dn r x h1 h2; have := h.xb; omega
  · have := h.dn r x h1 h3; have := h.und p y h2 h4; omega
  · by_cases er : r = s
    · subst er
      obtain ⟨a, a1, a2, a3, a4⟩ := e
      rw [h.sx] at h2
      simp only [Option.some.injEq] at h2
      have := h.arcs a (hl ▸ a1) a2 p y a3 h3
      omega
    · exact h.cl r p w x y er h1 e h2 h3

/-- The least of what an end costs. -/
def finS (D : Nat → Nat) (sts : List St) (p x : Nat) : Nat :=
  match sts[p]? with
  | some s => if D p ≠ big ∧ s.fin ≠ 1000000001 ∧ D p + s.fin.toNat < x then D p + s.fin.toNat else x
  | none => x
def finN (D : Nat → Nat) (sts : List St) : Nat → Nat
  | 0 => big
  | p + 1 => finS D sts p (finN D sts p)
theorem finN_le (D : Nat → Nat) (sts : List St) : ∀ p, finN D sts p ≤ big
  | 0 => Nat.le_refl _
  | p + 1 => by
    have := finN_le D sts p
    simp only [finN, finS]
    split
    · split <;> omega
    · exact this
theorem finN_none {D : Nat → Nat} {sts : List St} {p : Nat} {s : St} (hs : sts[p]? = some s) (h : D p = big) : finN D sts (p + 1) = finN D sts p := by
  simp [finN, finS, hs, h]
theorem finN_inf {D : Nat → Nat} {sts : List St} {p : Nat} {s : St} (hs : sts[p]? = some s) (h : s.fin = 1000000001) : finN D sts (p + 1) = finN D sts p := by
  simp [finN, finS, hs, h]
theorem finN_ge {D : Nat → Nat} {sts : List St} {p : Nat} {s : St} (hs : sts[p]? = some s) (h : ¬ D p + s.fin.toNat < finN D sts p) : finN D sts (p + 1) = finN D sts p := by
  simp [finN, finS, hs, h]
theorem finN_lt {D : Nat → Nat} {sts : List St} {p : Nat} {s : St} (hs : sts[p]? = some s) (h0 : D p ≠ big) (h1 : s.fin ≠ 1000000001) (h : D p + s.fin.toNat < finN D sts p) : finN D sts (p + 1) = D p + s.fin.toNat := by
  simp [finN, finS, hs, h, h0, h1]
/-- How the program keeps it: a cost that is not to be had is one too high. -/
def encF (x : Nat) : Int := if x = big then 1000000001 else if x = 1000000001 then 1000000002 else (x : Int)
/-- How the answer tells it. -/
def tldF (x : Nat) : Int := if x = big then 1000000001 else if 1000000000 < x then 0 else (x : Int)

/-- The arcs of a state that are had by a hop. -/
def shA (D : Nat → Nat) (sts : List St) (p : Nat) : List Ar := if D p = big then [] else ((stA sts p).filter fun a => !emp a).map fun a => ⟨a.i, a.o, (D p : Int) + a.w, a.t⟩
def allA (D : Nat → Nat) (sts : List St) : Nat → List Ar
  | 0 => []
  | p + 1 => allA D sts p ++ shA D sts p
theorem shA_len (D : Nat → Nat) (sts : List St) (p : Nat) : (shA D sts p).length ≤ (stA sts p).length := by
  unfold shA
  split
  · simp
  · rw [List.length_map]; exact List.length_filter_le _ _
theorem stA_arcN (sts : List St) : ∀ k, k ≤ sts.length → ((List.range k).map fun p => (stA sts p).length).sum = arcN (sts.take k)
  | 0, _ => by simp [arcN]
  | k + 1, h => by
    have hx : sts[k]? = some sts[k] := List.getElem?_eq_getElem (by omega)
    rw [List.range_succ, List.map_append, List.sum_append, stA_arcN sts k (by omega), take_snoc hx, arcN_snoc]
    simp [stA_of hx]
theorem allA_len (D : Nat → Nat) (sts : List St) : ∀ k, (allA D sts k).length ≤ ((List.range k).map fun p => (stA sts p).length).sum
  | 0 => by simp [allA]
  | k + 1 => by
    have h1 := allA_len D sts k
    have h2 := shA_len D sts k
    rw [List.range_succ, List.map_append, List.sum_append]
    simp [allA]
    omega
theorem arcN_take (sts : List St) (k : Nat) : arcN (sts.take k) ≤ arcN sts := by
  conv => rhs; rw [← List.take_append_drop k sts]
  unfold arcN
  rw [List.map_append, List.sum_append]
  exact Nat.le_add_right _ _
theorem allA_400 {D : Nat → Nat} {sts : List St} {k : Nat} (hk : k ≤ sts.length) (h : arcN sts ≤ 400) : (allA D sts k).length ≤ 400 := by
  have h1 := allA_len D sts k
  rw [stA_arcN sts k hk] at h1
  have := arcN_take sts k
  omega

/-- Of arcs that are alike the lightest, by a map. -/
abbrev K3 : Type := Int × Int × Int
def ky (a : Ar) : K3 := (a.i, a.o, a.t)
def lessM (M : List (K3 × Int)) (a : Ar) : Bool := match mget M (ky a) with | some w => decide (a.w < w) | none => true
def addM (M : List (K3 × Int)) (a : Ar) : List (K3 × Int) := if lessM M a = true then mput M (ky a) a.w else M
def mapM (l : List Ar) : List (K3 × Int) := l.foldl addM []
theorem mapM_snoc (l : List Ar) (a : Ar) : mapM (l ++ [a]) = addM (mapM l) a := by simp [mapM]
def toA (x : K3 × Int) : Ar := ⟨x.1.1, x.1.2.1, x.2, x.1.2.2⟩
theorem mput_keys {K : Type} [DecidableEq K] {l : List (K × Int)} (a : K) (v : Int) (h : (l.map (·.1)).Nodup) : ((mput l a v).map (·.1)).Nodup := by
  unfold mput
  cases hf : mfind l a 0 with
  | none =>
    have hn : mget l a = none := by simp [mget, hf]
    have hn := mget_none.1 hn
    simp only [List.map_append, List.map_cons, List.map_nil]
    rw [List.nodup_append]
    exact ⟨h, by simp, fun x hx y hy => by
      simp at hy; subst hy
      obtain ⟨z, hz, rfl⟩ := List.mem_map.1 hx
      exact hn z hz⟩
  | some y =>
    obtain ⟨i, u⟩ := y
    have hi := mfind_some hf
    have : (l.set i (a, v)).map (·.1) = l.map (·.1) := by
      refine List.ext_getElem? fun j => ?_
      rw [List.getElem?_map, List.getElem?_map, List.getElem?_set]
      split
      · rename_i e; subst e
        rw [if_pos (List.getElem?_eq_some_iff.1 hi).1, hi]; rfl
      · rfl
    show ((l.set i (a, v)).map (·.1)).Nodup
    rw [this]; exact h
theorem mget_mem {K : Type} [DecidableEq K] {k : K} {w : Int} : ∀ {l : List (K × Int)}, (l.map (·.1)).Nodup → (mget l k = some w ↔ (k, w) ∈ l)
  | [], _ => by simp [mget, mfind]
  | (a, u) :: l, h => by
    have h2 := List.nodup_cons.1 (show (a :: l.map (·.1)).Nodup from h)
    have ih := mget_mem (k := k) (w := w) h2.2
    rw [mget_cons]
    by_cases e : k = a
    · subst e
      rw [if_pos rfl]
      constructor
      · intro h3; simp at h3; simp [h3]
      · intro h3
        rcases List.mem_cons.1 h3 with h3 | h3
        · simp at h3; simp [h3]
        · exact absurd (List.mem_map.2 ⟨_, h3, rfl⟩) h2.1
    · rw [if_neg e, ih]
      simp [e]
theorem mapM_spec : ∀ (n : Nat) (l : List Ar), l.length = n → ((mapM l).map (·.1)).Nodup ∧ ∀ k, (∀ w, mget (mapM l) k = some w → (∃ a ∈ l, ky a = k ∧ a.w = w) ∧ ∀ a ∈ l, ky a = k → w ≤ a.w) ∧ (mget (mapM l) k = none → ∀ a ∈ l, ky a ≠ k)
  | 0, l, h => by
    obtain rfl := List.eq_nil_of_length_eq_zero h
    simp [mapM, mget, mfind]
  | n + 1, l, h => by
    obtain ⟨l', a, rfl⟩ : ∃ l' a, l = l' ++ [a] := ⟨l.dropLast, l.getLast (by rintro rfl; simp at h), (List.dropLast_concat_getLast _).symm⟩
    obtain ⟨ih1, ih2⟩ := mapM_spec n l' (by simpa using h)
    rw [mapM_snoc]
    unfold addM
    generalize mapM l' = M at ih1 ih2 ⊢
    by_cases hl : lessM M a = true
    · rw [if_pos hl]
      refine ⟨mput_keys _ _ ih1, fun k => ?_⟩
      rw [mget_mput]
      by_cases e : k = ky a
      · subst e
        rw [if_pos rfl]
        refine ⟨fun w hw => ?_, fun h => by cases h⟩
        simp only [Option.some.injEq] at hw
        subst hw
        refine ⟨⟨a, by simp, rfl, rfl⟩, fun b hb hk => ?_⟩
        rcases List.mem_append.1 hb with hb | hb
        · unfold lessM at hl
          cases hg : mget M (ky a) with
          | none => exact absurd hk ((ih2 (ky a)).2 hg b hb)
          | some w =>
            rw [hg] at hl
            have := ((ih2 (ky a)).1 w hg).2 b hb hk
            simp at hl
            omega
        · simp only [List.mem_singleton] at hb
          subst hb; exact Int.le_refl _
      · rw [if_neg e]
        refine ⟨fun w hw => ?_, fun hw b hb => ?_⟩
        · obtain ⟨⟨b, h1, h2⟩, h3⟩ := (ih2 k).1 w hw
          refine ⟨⟨b, by simp [h1], h2⟩, fun c hc hk => ?_⟩
          rcases List.mem_append.1 hc with hc | hc
          · exact h3 c hc hk
          · simp only [List.mem_singleton] at hc
            subst hc; exact absurd hk.symm e
        · rcases List.mem_append.1 hb with hb | hb
          · exact (ih2 k).2 hw b hb
          · simp only [List.mem_singleton] at hb
            subst hb; exact Ne.symm e
    · rw [if_neg hl]
      refine ⟨ih1, fun k => ⟨fun w hw => ?_, fun hw b hb => ?_⟩⟩
      · obtain ⟨⟨b, h1, h2⟩, h3⟩ := (ih2 k).1 w hw
        refine ⟨⟨b, by simp [h1], h2⟩, fun c hc hk => ?_⟩
        rcases List.mem_append.1 hc with hc | hc
        · exact h3 c hc hk
        · simp only [List.mem_singleton] at hc
          subst hc
          unfold lessM at hl
          rw [hk, hw] at hl
          simp at hl
          exact hl
      · rcases List.mem_append.1 hb with hb | hb
        · exact (ih2 k).2 hw b hb
        · simp only [List.mem_singleton] at hb
          subst hb
          rintro rfl
          unfold lessM at hl
          rw [hw] at hl
          exact hl rfl
/-- The lightest of arcs in order. -/
theorem lstA_mem : ∀ (l : List Ar) (p a : Ar), Sd ahd (p :: l) → (a ∈ lst.lstA p l ↔ a ∈ l ∧ ky a ≠ ky p ∧ ∀ b ∈ l, ky b = ky a → a.w ≤ b.w)
  | [], p, a, _ => by simp [lst.lstA]
  | x :: l, p, a, h => by
    have h1 := List.pairwise_cons.1 h
    have h2 := List.pairwise_cons.1 h1.2
    have ih := lstA_mem l x a h1.2
    have hpx : ahd x p = false := h1.1 x (by simp)
    have hxl : ∀ b ∈ l, ky b = ky x → x.w ≤ b.w := fun b hb hk => by
      have := h2.1 b hb
      rw [Bool.eq_false_iff, ne_eq, ahd_iff] at this
      simp only [ky, Prod.mk.injEq] at hk
      omega
    simp only [lst.lstA]
    by_cases hc : x.i = p.i ∧ x.o = p.o ∧ x.t = p.t
    · rw [if_pos hc]
      have hk : ky x = ky p := by simp [ky, hc]
      rw [ih, hk]
      constructor
      · rintro ⟨a1, a2, a3⟩
        refine ⟨by simp [a1], a2, fun b hb hkb => ?_⟩
        rcases List.mem_cons.1 hb with rfl | hb
        · exact absurd (hk.symm.trans hkb).symm a2
        · exact a3 b hb hkb
      · rintro ⟨a1, a2, a3⟩
        rcases List.mem_cons.1 a1 with rfl | a1
        · exact absurd hk a2
        · exact ⟨a1, a2, fun b hb => a3 b (by simp [hb])⟩
    · rw [if_neg hc]
      have hk : ky x ≠ ky p := fun e => hc (by simp only [ky, Prod.mk.injEq] at e; exact e)
      have hlp : ∀ b ∈ l, ky b ≠ ky p := fun b hb e => by
        have b1 := h2.1 b hb
        have b2 := h1.1 b (by simp [hb])
        rw [Bool.eq_false_iff, ne_eq, ahd_iff] at b1 b2 hpx
        simp only [ky, Prod.mk.injEq] at e hk
        omega
      rw [List.mem_cons, ih]
      constructor
      · rintro (rfl | ⟨a1, a2, a3⟩)
        · refine ⟨by simp, hk, fun b hb hkb => ?_⟩
          rcases List.mem_cons.1 hb with rfl | hb
          · exact Int.le_refl _
          · exact hxl b hb hkb
        · refine ⟨by simp [a1], hlp a a1, fun b hb hkb => ?_⟩
          rcases List.mem_cons.1 hb with rfl | hb
          · exact absurd hkb.symm a2
          · exact a3 b hb hkb
      · rintro ⟨a1, a2, a3⟩
        rcases List.mem_cons.1 a1 with rfl | a1
        · exact .inl rfl
        · by_cases hax : ky a = ky x
          · left
            have b1 := a3 x (by simp) hax.symm
            have b2 := hxl a a1 hax
            obtain ⟨ai, ao, aw, at'⟩ := a
            obtain ⟨xi, xo, xw, xt⟩ := x
            simp only [ky, Prod.mk.injEq] at hax b1 b2
            simp only [Ar.mk.injEq]
            omega
          · exact .inr ⟨a1, hax, fun b hb => a3 b (by simp [hb])⟩
theorem lst_mem {l : List Ar} (h : Sd ahd l) (a : Ar) : a ∈ lst l ↔ a ∈ l ∧ ∀ b ∈ l, ky b = ky a → a.w ≤ b.w := by
  cases l with
  | nil => simp [lst]
  | cons p l =>
    have h1 := List.pairwise_cons.1 h
    have hpl : ∀ b ∈ l, ky b = ky p → p.w ≤ b.w := fun b hb hk => by
      have := h1.1 b hb
      rw [Bool.eq_false_iff, ne_eq, ahd_iff] at this
      simp only [ky, Prod.mk.injEq] at hk
      omega
    simp only [lst, List.mem_cons, lstA_mem l p a h]
    constructor
    · rintro (rfl | ⟨a1, a2, a3⟩)
      · refine ⟨.inl rfl, fun b hb hk => ?_⟩
        rcases hb with rfl | hb
        · exact Int.le_refl _
        · exact hpl b hb hk
      · refine ⟨.inr a1, fun b hb hk => ?_⟩
        rcases hb with rfl | hb
        · exact absurd hk.symm a2
        · exact a3 b hb hk
    · rintro ⟨a1, a3⟩
      rcases a1 with rfl | a1
      · exact .inl rfl
      · by_cases hax : ky a = ky p
        · left
          have b1 := a3 p (.inl rfl) hax.symm
          have b2 := hpl a a1 hax
          obtain ⟨ai, ao, aw, at'⟩ := a
          obtain ⟨xi, xo, xw, xt⟩ := p
          simp only [ky, Prod.mk.injEq] at hax b1 b2
          simp only [Ar.mk.injEq]
          omega
        · exact .inr ⟨a1, hax, fun b hb => a3 b (.inr hb)⟩
theorem lstA_sub : ∀ (l : List Ar) (p : Ar), (lst.lstA p l).Sublist l
  | [], p => by simp [lst.lstA]
  | x :: l, p => by
    simp only [lst.lstA]
    split
    · exact (lstA_sub l x).cons _
    · exact (lstA_sub l x).cons_cons _
theorem lst_sub (l : List Ar) : (lst l).Sublist l := by
  cases l with
  | nil => simp [lst]
  | cons a l => exact (lstA_sub l a).cons_cons _
theorem inL_mem (l : List Ar) (a : Ar) : a ∈ inL l ↔ a ∈ l ∧ ∀ b ∈ l, ky b = ky a → a.w ≤ b.w := by
  unfold inL
  rw [lst_mem (inO_sd l)]
  simp [(inO_perm l).mem_iff]
theorem lstA_keys : ∀ (l : List Ar) (p : Ar), Sd ahd (p :: l) → ((lst.lstA p l).map ky).Nodup
  | [], p, _ => by simp [lst.lstA]
  | x :: l, p, h => by
    have h1 := List.pairwise_cons.1 h
    have ih := lstA_keys l x h1.2
    simp only [lst.lstA]
    split
    · exact ih
    · rw [List.map_cons, List.nodup_cons]
      refine ⟨fun hm => ?_, ih⟩
      obtain ⟨b, hb, hk⟩ := List.mem_map.1 hm
      exact ((lstA_mem l x b h1.2).1 hb).2.1 hk
theorem inL_keys (l : List Ar) : ((inL l).map ky).Nodup := by
  unfold inL
  have h := inO_sd l
  generalize inO l = S at h
  cases S with
  | nil => simp [lst]
  | cons p S =>
    simp only [lst, List.map_cons, List.nodup_cons]
    refine ⟨fun hm => ?_, lstA_keys S p h⟩
    obtain ⟨b, hb, hk⟩ := List.mem_map.1 hm
    exact ((lstA_mem S p b h).1 hb).2.1 hk
theorem nodup_of_map {α β : Type} (f : α → β) {l : List α} (h : (l.map f).Nodup) : l.Nodup := by
  induction l with
  | nil => simp
  | cons x l ih =>
    rw [List.map_cons, List.nodup_cons] at h
    rw [List.nodup_cons]
    exact ⟨fun hx => h.1 (List.mem_map_of_mem hx), ih h.2⟩
theorem nodup_map_inj {α β : Type} (f : α → β) (hf : ∀ a b, f a = f b → a = b) {l : List α} (h : l.Nodup) : (l.map f).Nodup := by
  induction l with
  | nil => simp
  | cons x l ih =>
    rw [List.nodup_cons] at h
    rw [List.map_cons, List.nodup_cons]
    exact ⟨fun hx => by obtain ⟨y, hy, he⟩ := List.mem_map.1 hx; exact h.1 (hf _ _ he ▸ hy), ih h.2⟩
/-- The map holds the lightest. -/
theorem mapM_perm (l : List Ar) : ((mapM l).map toA).Perm (inL l) := by
  obtain ⟨h1, h2⟩ := mapM_spec _ l rfl
  have hti : ∀ x y : K3 × Int, toA x = toA y → x = y := by
    rintro ⟨⟨a, b, c⟩, d⟩ ⟨⟨a', b', c'⟩, d'⟩ h
    simp only [toA, Ar.mk.injEq] at h
    simp [h]
  refine (List.perm_ext_iff_of_nodup (nodup_map_inj toA hti (nodup_of_map _ h1)) (nodup_of_map ky (inL_keys l))).2 fun a => ?_
  rw [inL_mem]
  have hm : a ∈ (mapM l).map toA ↔ mget (mapM l) (ky a) = some a.w := by
    rw [mget_mem h1, List.mem_map]
    constructor
    · rintro ⟨x, hx, rfl⟩; exact hx
    · intro h; exact ⟨_, h, rfl⟩
  rw [hm]
  constructor
  · intro h
    obtain ⟨⟨b, b1, b2, b3⟩, b4⟩ := (h2 (ky a)).1 _ h
    have hba : b = a := by
      obtain ⟨ai, ao, aw, at'⟩ := a
      obtain ⟨xi, xo, xw, xt⟩ := b
      simp only [ky, Prod.mk.injEq] at b2 b3
      simp only [Ar.mk.injEq]
      omega
    subst hba
    exact ⟨b1, b4⟩
  · rintro ⟨h3, h4⟩
    cases hg : mget (mapM l) (ky a) with
    | none => exact absurd rfl ((h2 (ky a)).2 hg a h3)
    | some w =>
      obtain ⟨⟨b, b1, b2, b3⟩, b4⟩ := (h2 (ky a)).1 _ hg
      have c1 := b4 a h3 rfl
      have c2 := h4 b b1 b2
      rw [show w = a.w by omega]
theorem inO_of_perm {A l : List Ar} (h : A.Perm (inL l)) : inO A = inL l := by
  have hs : Sd ahd (inL l) := (inO_sd l).sublist (lst_sub _)
  exact sd_uniq tot_ahd (inO_sd A) hs ((inO_perm A).trans h)
theorem inL_len (l : List Ar) : (inL l).length ≤ l.length := by
  have := lst_len (inO l)
  rw [inO_len] at this
  exact this

/-- The answer. -/
noncomputable def emA (sts : List St) (q : Nat) : List Ar := inL (allA (hop sts q) sts sts.length)
noncomputable def emF (sts : List St) (q : Nat) : Nat := finN (hop sts q) sts sts.length
noncomputable def emL (sts : List St) : List St := bl (fun q => ⟨tldF (emF sts q), emA sts q⟩) sts.length
noncomputable def emO (sts : List St) (q : Nat) : Bool := decide (emF sts q ≠ big ∧ 1000000000 < emF sts q) || (emA sts q).any fun a => decide (1000000000 < a.w)
noncomputable def emV (sts : List St) (k : Nat) : Bool := (List.range k).any (emO sts)
noncomputable def emE (m : Mach) : Int := if machE m ≠ 0 then machE m else if emV m.states m.states.length = true then 4 else if 400 < arcN (emL m.states) then 5 else 0
noncomputable def emR (m : Mach) : Mach := if emE m = 0 then ⟨m.start, emL m.states⟩ else ⟨0, []⟩
theorem emV_succ (sts : List St) (k : Nat) : emV sts (k + 1) = (emV sts k || emO sts k) := by simp [emV, List.range_succ]
end Go.Proofs.Ythlcginebeapdaa
