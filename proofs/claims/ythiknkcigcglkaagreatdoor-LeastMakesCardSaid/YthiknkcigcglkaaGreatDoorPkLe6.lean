/- Part 6 of what the law LeastMakes rests on. -/
import Derived.Test.YthiknkcigcglkaaGreatDoorPkLe1
import Derived.Test.YthiknkcigcglkaaGreatDoorPkLe2
import Derived.Test.YthiknkcigcglkaaGreatDoorPkLe3
import Derived.Test.YthiknkcigcglkaaGreatDoorPkLe4
import Derived.Test.YthiknkcigcglkaaGreatDoorPkLe5
namespace Go.Proofs.YthiknkcigcglkaaGreatDoor
open Go.RowKit
set_option linter.unusedSimpArgs false
set_option linter.unusedVariables false
set_option maxRecDepth 100000
set_option maxHeartbeats 8000000
section
variable (Init : Nat → Prop) (Edge : Nat → Nat → Prop)
inductive Rch : Nat → Prop
  | init (q : Nat) (h : Init q) : Rch q
  | step (q p : Nat) (h : Rch q) (e : Edge q p) : Rch p
def Just (L : List Bool) (x : Nat) : Prop := Init x ∨ ∃ y, L[y]? = some true ∧ Edge y x
def SoundL (L : List Bool) : Prop := ∀ x, L[x]? = some true → Rch Init Edge x
def ClosedL (L : List Bool) : Prop := ∀ x, x < L.length → Just Init Edge L x → L[x]? = some true
open Classical in
noncomputable def rchL (n : Nat) : List Bool := (List.range n).map fun q => decide (Rch Init Edge q)
variable {Init : Nat → Prop} {Edge : Nat → Nat → Prop} {L : List Bool} {n : Nat}
theorem rchL_len : (rchL Init Edge n).length = n := by simp [rchL]
theorem rchL_get {q : Nat} (hq : q < n) : (rchL Init Edge n)[q]? = some true ↔ Rch Init Edge q := by
  simp [rchL, List.getElem?_map, List.getElem?_range hq]
/-- Sound and closed: it is the set. (Nothing outside is reached from inside.) -/
theorem rch_done (hl : L.length = n) (hin : ∀ x, Rch Init Edge x → x < n) (hs : SoundL Init Edge L) (hc : ClosedL Init Edge L) : L = rchL Init Edge n := by
  have hR : ∀ x, Rch Init Edge x → L[x]? = some true := by
    intro x hx
    induction hx with
    | init q h => exact hc q (by rw [hl]; exact hin q (.init q h)) (.inl h)
    | step q p h e ih => exact hc p (by rw [hl]; exact hin p (.step q p h e)) (.inr ⟨q, ih, e⟩)
  refine List.ext_getElem? fun q => ?_
  by_cases hq : q < n
  · have h1 := rchL_get (Init := Init) (Edge := Edge) hq
    have hlt : q < L.length := by omega
    have hlt' : q < (rchL Init Edge n).length := by rw [rchL_len]; exact hq
    rw [List.getElem?_eq_getElem hlt, List.getElem?_eq_getElem hlt'] at *
    have h2 : L[q] = true → Rch Init Edge q := fun h => hs q (by rw [List.getElem?_eq_getElem hlt, h])
    have h3 : Rch Init Edge q → L[q] = true := fun h => by have := hR q h; rw [List.getElem?_eq_getElem hlt] at this; simpa using this
    have h4 : (rchL Init Edge n)[q] = true ↔ Rch Init Edge q := by simpa using h1
    congr 1
    cases h5 : L[q] <;> cases h6 : (rchL Init Edge n)[q]
    · rfl
    · exact absurd (h3 (h4.1 h6)) (by simp [h5])
    · exact absurd (h4.2 (h2 h5)) (by simp [h6])
    rfl
  rw [List.getElem?_eq_none zT15, List.getElem?_eq_none (by rw [rchL_len]; omega)]
theorem set_true_get {x y : Nat} (h : L[y]? = some true) : (L.set x true)[y]? = some true := by
  rw [List.getElem?_set]
  split
  · rename_i e
    subst e
    rw [if_pos (List.getElem?_eq_some_iff.1 h).1]
  exact h
theorem set_true_inv {x y : Nat} (h : (L.set x true)[y]? = some true) : y = x ∨ L[y]? = some true := by
  rw [List.getElem?_set] at h
  split at h
  · rename_i e; exact .inl e.symm
  exact .inr h
theorem set_same {x : Nat} (h : L[x]? = some true) : L.set x true = L := by
  refine List.ext_getElem? fun y => ?_
  rw [List.getElem?_set]
  split
  · rename_i e
    subst e
    rw [if_pos (List.getElem?_eq_some_iff.1 h).1, h]
  rfl
theorem count_set : ∀ (L : List Bool) {x : Nat}, L[x]? = some false → (L.set x true).count true = L.count true + 1 ∧ (L.set x true).count false + 1 = L.count false
  | [], x, h => by simp at h
  | b :: L, 0, h => by simp at h; subst h; simp
  | b :: L, x + 1, h => by
    have := count_set L (x := x) (by simpa using h)
    cases b <;> simp <;> omega
theorem sound_set {x : Nat} (hs : SoundL Init Edge L) (hj : Just Init Edge L x) : SoundL Init Edge (L.set x true) := by
  intro y hy
  rcases set_true_inv hy with rfl | h
  · rcases hj with h | ⟨z, h1, h2⟩
    · exact .init _ h
    exact .step _ _ (hs z h1) h2
  exact hs y h
/-- In rounds: all is closed, or this round has found one more, or it has found nothing and D is done. -/
def Rnd (Init : Nat → Prop) (Edge : Nat → Nat → Prop) (n k : Nat) (D : List Bool → Prop) (L : List Bool) : Prop := L.length = n ∧ SoundL Init Edge L ∧ (ClosedL Init Edge L ∨ k + 1 ≤ L.count true ∨ k ≤ L.count true ∧ D L)
theorem Rnd.skip {k : Nat} {D D' : List Bool → Prop} (h : Rnd Init Edge n k D L) (hd : D L → D' L) : Rnd Init Edge n k D' L := by
  obtain ⟨h1, h2, h3⟩ := h
  exact ⟨h1, h2, h3.imp_right (Or.imp_right fun h => ⟨h.1, hd h.2⟩)⟩
theorem Rnd.set {k x : Nat} {D D' : List Bool → Prop} (h : Rnd Init Edge n k D L) (hx : x < n) (hj : Just Init Edge L x) (hd : L[x]? = some true → D L → D' L) : Rnd Init Edge n k D' (L.set x true) := by
  obtain ⟨h1, h2, h3⟩ := h
  have hlt : x < L.length := by omega
  by_cases hb : L[x]? = some true
  · rw [set_same hb]
    exact ⟨h1, h2, h3.imp_right (Or.imp_right fun h => ⟨h.1, hd hb h.2⟩)⟩
  have hf : L[x]? = some false := by
    rw [List.getElem?_eq_getElem hlt] at hb ⊢
    cases h : L[x] <;> simp_all
  have hc := (count_set L hf).1
  refine ⟨by simpa using h1, sound_set h2 hj, .inr (.inl ?_)⟩
  rcases h3 with h3 | h3 | h3
  · exact absurd (h3 x hlt hj) hb
  · omega
  omega
theorem Rnd.next {k : Nat} {D D' : List Bool → Prop} (h : Rnd Init Edge n k D L) (hd : D L → ClosedL Init Edge L) (h0 : ∀ L, D' L) : Rnd Init Edge n (k + 1) D' L := by
  obtain ⟨h1, h2, h3⟩ := h
  refine ⟨h1, h2, ?_⟩
  rcases h3 with h3 | h3 | h3
  · exact .inl h3
  · exact .inr (.inr ⟨h3, h0 L⟩)
  exact .inl (hd h3.2)
theorem Rnd.done {k : Nat} {D : List Bool → Prop} (h : Rnd Init Edge n k D L) (hk : n < k) (hin : ∀ x, Rch Init Edge x → x < n) : L = rchL Init Edge n := by
  obtain ⟨h1, h2, h3⟩ := h
  have hc : L.count true ≤ n := by rw [← h1]; exact List.count_le_length
  refine rch_done h1 hin h2 ?_
  rcases h3 with h3 | h3 | h3
  · exact h3
  · omega
  omega
theorem Rnd.start {D : List Bool → Prop} (h0 : ∀ L, D L) : Rnd Init Edge n 0 D (List.replicate n false) :=
  ⟨by simp, fun x hx => by simp [List.getElem?_replicate] at hx, .inr (.inr ⟨by omega, h0 _⟩)⟩
/-- By a list of what is still to do. -/
structure Fld (Init : Nat → Prop) (Edge : Nat → Nat → Prop) (n : Nat) (X : Nat → Prop) (L : List Bool) (todo : List Nat) : Prop where
  len : L.length = n
  sound : SoundL Init Edge L
  sub : ∀ x ∈ todo, L[x]? = some true
  edge : ∀ x p, L[x]? = some true → x ∉ todo → ¬ X x → Edge x p → p < n → L[p]? = some true
theorem Fld.done {todo : List Nat} {X : Nat → Prop} (h : Fld Init Edge n X L todo) (ht : todo = []) (hX : ∀ x, ¬ X x) (hi : ∀ x, Init x → L[x]? = some true) (hin : ∀ x, Rch Init Edge x → x < n) : L = rchL Init Edge n :=
  rch_done h.len hin h.sound fun x hx hj => by
    rcases hj with hj | ⟨y, h1, h2⟩
    · exact hi x hj
    exact h.edge y x h1 (by simp [ht]) (hX y) h2 (by rw [← h.len]; exact hx)
/-- The last of the list is taken. -/
theorem Fld.take {todo : List Nat} {q : Nat} (h : Fld Init Edge n (fun _ => False) L (todo ++ [q])) : L[q]? = some true ∧ Fld Init Edge n (fun x => x = q) L todo :=
  ⟨h.sub q zT16, h.len, h.sound, fun x hx => h.sub x (by simp [hx]), fun x p h1 h2 h3 h4 h5 => h.edge x p h1 (by simp [h2]; exact h3) zT16 h4 h5⟩
theorem Fld.push {todo : List Nat} {q p : Nat} (h : Fld Init Edge n (fun x => x = q) L todo) (hq : L[q]? = some true) (he : Edge q p) (hp : L[p]? = some false) : Fld Init Edge n (fun x => x = q) (L.set p true) (todo ++ [p]) := by
  have hpn : p < L.length := (List.getElem?_eq_some_iff.1 hp).1
  refine ⟨by simpa using h.len, sound_set h.sound (.inr ⟨q, hq, he⟩), fun x hx => ?_, fun x r h1 h2 h3 h4 h5 => ?_⟩
  · rcases List.mem_append.1 hx with h1 | h1
    · exact set_true_get (h.sub x h1)
    obtain rfl : x = p := by simpa using h1
    rw [List.getElem?_set_self hpn]
  have hxp : x ≠ p := by rintro rfl; exact h2 zT16
  rcases set_true_inv h1 with e | h1
  · exact absurd e hxp
  exact set_true_get (h.edge x r h1 (fun hm => h2 (by simp [hm])) h3 h4 h5)
theorem Fld.settle {todo : List Nat} {q : Nat} (h : Fld Init Edge n (fun x => x = q) L todo) (hq : ∀ p, Edge q p → p < n → L[p]? = some true) : Fld Init Edge n (fun _ => False) L todo :=
  ⟨h.len, h.sound, h.sub, fun x p h1 h2 _ h4 h5 => by
    by_cases e : x = q
    · subst e; exact hq p h4 h5
    exact h.edge x p h1 h2 e h4 h5⟩
theorem Fld.start {todo : List Nat} (hl : L.length = n) (h1 : ∀ x, L[x]? = some true ↔ x ∈ todo) (h2 : ∀ x ∈ todo, Init x) : Fld Init Edge n (fun _ => False) L todo :=
  ⟨hl, fun x hx => .init x (h2 x ((h1 x).1 hx)), fun x hx => (h1 x).2 hx, fun x p h3 h4 _ _ _ => absurd ((h1 x).1 h3) h4⟩
end
/-- Ahead: from the start, along the arcs. -/
def aInit (m : Mach) (q : Nat) : Prop := m.start = (q : Int) ∧ q < m.states.length
def aEdge (m : Mach) (q p : Nat) : Prop := ∃ s a, m.states[q]? = some s ∧ a ∈ s.arcs ∧ a.t = (p : Int)
/-- Back: from the ends, against them. -/
def bInit (m : Mach) (q : Nat) : Prop := ∃ s, m.states[q]? = some s ∧ s.fin ≠ 1000000001
def bEdge (m : Mach) (q p : Nat) : Prop := ∃ s a, m.states[p]? = some s ∧ a ∈ s.arcs ∧ a.t = (q : Int)
noncomputable def aheadL (m : Mach) : List Bool := if machE m = 0 then rchL (aInit m) (aEdge m) m.states.length else []
noncomputable def backL (m : Mach) : List Bool := if machE m = 0 then rchL (bInit m) (bEdge m) m.states.length else []
theorem arcN_mem : ∀ (l : List St) (s : St), s ∈ l → s.arcs.length ≤ arcN l
  | [], s, h => by cases h
  | y :: l, s, h => by
    rcases List.mem_cons.1 h with rfl | h
    · simp [arcN]
    have := arcN_mem l s h
    simp [arcN] at this ⊢
    omega
abbrev arV2 (a : Ar) : List V := (arD a).map V.d
abbrev stV2 (s : St) : List V := (stD s).map V.d
abbrev encN (x : Nat) : List D := [.p (.int .i64 (x : Int))]
/-- The first k changed, the others as they were. -/
def part {α : Type} (f : α → α) (k : Nat) (l : List α) : List α := (l.take k).map f ++ l.drop k
theorem part_len {α : Type} (f : α → α) (k : Nat) (l : List α) : (part f k l).length = l.length := by simp [part]; omega
theorem part_get {α : Type} {f : α → α} {k : Nat} {l : List α} {x : α} (h : l[k]? = some x) : (part f k l)[k]? = some x := by
  have hk := (List.getElem?_eq_some_iff.1 h).1
  unfold part
  rw [List.getElem?_append_right zT11]
  simp only [List.length_map, List.length_take, Nat.min_eq_left (Nat.le_of_lt hk), Nat.sub_self]
  simpa using h
theorem part_set {α : Type} {f : α → α} {k : Nat} {l : List α} {x : α} (h : l[k]? = some x) : (part f k l).set k (f x) = part f (k + 1) l := by
  have hk := (List.getElem?_eq_some_iff.1 h).1
  unfold part
  rw [List.set_append_right _ _ zT11]
  simp only [List.length_map, List.length_take, Nat.min_eq_left (Nat.le_of_lt hk), Nat.sub_self]
  have hd : l.drop k = x :: l.drop (k + 1) := by
    rw [List.drop_eq_getElem_cons hk]
    congr 1
    exact (List.getElem?_eq_some_iff.1 h).2
  rw [hd, List.set_cons_zero, List.take_add_one, h]
  simp
theorem part_skip {α : Type} {f : α → α} {k : Nat} {l : List α} {x : α} (h : l[k]? = some x) (hx : f x = x) : part f k l = part f (k + 1) l := by
  rw [← part_set h, hx]
  refine List.ext_getElem? fun i => ?_
  rw [List.getElem?_set]
  split
  · rename_i e
    subst e
    have := part_get (f := f) h
    rw [if_pos (List.getElem?_eq_some_iff.1 this).1, this]
  rfl
theorem part_zero {α : Type} (f : α → α) (l : List α) : part f 0 l = l := by simp [part]
theorem part_full {α : Type} (f : α → α) {l : List α} {k : Nat} (hk : l.length ≤ k) : part f k l = l.map f := by simp [part, List.take_of_length_le hk, List.drop_of_length_le hk]
theorem count_clear : ∀ (L : List Bool) {x : Nat}, L[x]? = some true → (L.set x false).count true + 1 = L.count true
  | [], x, h => by simp at h
  | b :: L, 0, h => by simp at h; subst h; simp
  | b :: L, x + 1, h => by
    have := count_clear L (x := x) (by simpa using h)
    cases b <;> simp <;> omega
def bl {α : Type} (g : Nat → α) (n : Nat) : List α := (List.range n).map g
theorem bl_len {α : Type} (g : Nat → α) (n : Nat) : (bl g n).length = n := by simp [bl]
theorem bl_get {α : Type} {g : Nat → α} {n q : Nat} (h : q < n) : (bl g n)[q]? = some (g q) := by simp [bl, List.getElem?_range h]
theorem bl_inv {α : Type} {g : Nat → α} {n q : Nat} {x : α} (h : (bl g n)[q]? = some x) : q < n ∧ x = g q := by
  have hq : q < n := by have := (List.getElem?_eq_some_iff.1 h).1; simpa [bl] using this
  rw [bl_get hq] at h
  exact ⟨hq, by simpa using h.symm⟩
theorem bl_set {α : Type} {g g' : Nat → α} {n p : Nat} {x : α} (h : p < n) (hx : g' p = x) (ho : ∀ q, q < n → q ≠ p → g q = g' q) : (bl g n).set p x = bl g' n := by
  refine List.ext_getElem? fun i => ?_
  rw [List.getElem?_set]
  by_cases e : p = i
  · subst e
    rw [if_pos rfl, if_pos (by rw [bl_len]; exact h), bl_get h, hx]
  rw [if_neg e]
  by_cases hi : i < n
  · rw [bl_get hi, bl_get hi, ho i hi (Ne.symm e)]
  rw [List.getElem?_eq_none (by rw [bl_len]; omega), List.getElem?_eq_none (by rw [bl_len]; omega)]
theorem bl_congr {α : Type} {g g' : Nat → α} {n : Nat} (h : ∀ q, q < n → g q = g' q) : bl g n = bl g' n := List.map_congr_left fun q hq => h q (List.mem_range.1 hq)
theorem bl_rep {α : Type} (n : Nat) (x : α) : List.replicate n x = bl (fun _ => x) n := by
  refine List.ext_getElem? fun i => ?_
  by_cases hi : i < n
  · rw [bl_get hi]; simp [List.getElem?_replicate, hi]
  rw [List.getElem?_eq_none zT11, List.getElem?_eq_none (by rw [bl_len]; omega)]
def stA (sts : List St) (q : Nat) : List Ar := (sts.getD q ⟨0, []⟩).arcs
theorem stA_of {sts : List St} {q : Nat} {x : St} (h : sts[q]? = some x) : stA sts q = x.arcs := by simp [stA, List.getD_eq_getElem?_getD, h]
def wdS (l : List Nat) : ByteArray := ⟨(wdB l).toArray⟩
theorem wdS_snoc (l : List Nat) (n : Nat) : wdS l ++ decS n ++ ⟨#[32]⟩ = wdS (l ++ [n]) := by
 unfold wdS decS
 have h1 : (⟨#[32]⟩ : ByteArray) = ⟨[(32 : UInt8)].toArray⟩ := rfl
 rw [wdB_app, h1, ByteArray.mk_append_mk, ByteArray.mk_append_mk]
 congr 1
 simp [wdB]
theorem wdS_size : ∀ (l : List Nat), (∀ n ∈ l, n ≤ 1000000001) → (wdB l).length ≤ 11 * l.length
 | [], _ => by simp [wdB]
 | n :: l, h => by
  have ih := wdS_size l fun x hx => h x (List.mem_cons_of_mem _ hx)
  have hd := digits_len 9 n (by have := h n List.mem_cons_self; omega)
  simp only [wdB, List.length_append, List.length_cons]
  omega
theorem decS_len {n : Nat} (h : n ≤ 1000000001) : (decS n).size ≤ 10 ∧ 0 < (decS n).size := by
 have hd := digits_len 9 n zT15
 have hp := List.length_pos_iff.2 (digits_spell n).2.1
 have : (decS n).size = (Lib.decDigits n).length := by simp [decS, ByteArray.size]
 omega
theorem bokS : BOk 114 := ⟨Nat.le_of_ble_eq_true zT12, Nat.le_of_ble_eq_true zT12, by kernel_rfl⟩
theorem lwN {K : List V} (hk : V.lowL 901 K = true) : Lw [] K := ⟨fun y hy => (by cases hy), hk⟩
theorem lwR {r : Nat} {row : Row} {K : List V} (hr : r < 900) (hrow : V.lowL 901 row.cells = true) (hk : V.lowL 901 K = true) : Lw [(r, row)] K := ⟨fun y hy => by
 rw [List.mem_singleton] at hy
 subst hy
 exact ⟨hr, hrow⟩, hk⟩
theorem lw2S (f : Int) (A : List Ar) {K : List V} (hk : V.lowL 901 K = true) : Lw [(2, ⟨35, [.i f, .d (arsD A)], false, 0⟩)] K := lwR zT14 rfl hk
theorem lw8S (i o w t : Int) {K : List V} (hk : V.lowL 901 K = true) : Lw [(8, ⟨47, [.i i, .i o, .i w, .i t], false, 0⟩)] K := lwR zT14 rfl hk
theorem pc_Blank {ty : TypeId} {H0 : List (Nat × Row)} {K : List V} (hk : BOk ty) (a z : Bool) (s : ByteArray) (hl : Lw H0 K) (hst : s.size + 1 ≤ 140737488355328) : PC Tryz.prog 82 [.ref 900 0, .d (.p (.int .u8 32))] (bH ty a z s H0) K (fun v H' K' => H' = bT ty false (s ++ ⟨#[32]⟩) H0 ∧ K' = K) := pc_WriteByte hk a z s 32 hl hst
/-- As PC, of a function value with what it has captured, under a premise on the world. -/
def PCV (Pre : World → Prop) (P : Program) (f : FuncId) (caps args : List V) (H : List (Nat × Row)) (K : List V) (post : V → List (Nat × Row) → List V → Prop) : Prop :=
 ∀ (c : Cx) (s : S) (o : Oper) (fx : Operand) (xs : Array Operand) (tys : Array TypeId) (l : List Nat) (ts : List V), Pre c.w0 → c.P = P → o.op = .call { callee := .value fx, args := xs, argTypes := tys } → s.ev fx = some (.fn f caps) → xs.toList.map s.ev = args.map some →
  l.map (fun i => fnd s.T i) = ts.map some → s.H = H → ts ++ s.K = K → dok s o = true → Step c o s (fun s' => ∃ v H' K', post v H' K' ∧ s' = back s l o.dst v H' K')
theorem PCV.intro {Pre : World → Prop} {P : Program} {f : FuncId} {fn : Func} {code : Code} {n : Nat} {rs : List ResultVar} {caps args : List V} {H : List (Nat × Row)} {K : List V} {post : V → List (Nat × Row) → List V → Prop} (hf : Is P f fn code n rs) (hn : args.length + caps.length ≤ n)
  (h : ∀ w0 out kx, Pre w0 → AW ⟨P, w0, out, kx, []⟩ code (QP P rs post) ⟨n, enum 0 (args ++ caps), H, K⟩) : PCV Pre P f caps args H K post := by
 intro c s o fx xs tys l ts hpre hP ho hfx hargs hts hH hK hd
 subst hP hH hK
 exact st_inline l hts hf ho hfx hargs hn hd fun kx => (h c.w0 c.out kx hpre).mono fun e s1 hq => hq.toQI
section
variable {c : Cx} {s : S} {o : Oper} {Q : Exit → S → Prop} {ops : Array Oper} {rest : List Oper}
theorem AL.pcv {Pre : World → Prop} {P : Program} {f : FuncId} {caps args : List V} {H : List (Nat × Row)} {K : List V} {post : V → List (Nat × Row) → List V → Prop} {fx : Operand} {xs : Array Operand} {tys : Array TypeId} (l : List Nat) {ts : List V} (h : PCV Pre P f caps args H K post) (hg : o.guard = none) (hP : c.P = P) (hpre : Pre c.w0) (ho : o.op = .call { callee := .value fx, args := xs, argTypes := tys }) (hfx : s.ev fx = some (.fn f caps)) (hargs : xs.toList.map s.ev = args.map some)
  (hts : l.map (fun i => fnd s.T i) = ts.map some) (hH : s.H = H) (hK : ts ++ s.K = K) (hd : dok s o = true) (hN : ∀ v H' K', post v H' K' → AL c ops rest Q (back s l o.dst v H' K')) : AL c ops (o :: rest) Q s :=
 AL.step hg fun g a w hs K' Q' hK' => h c s o fx xs tys l ts hpre hP ho hfx hargs hts hH hK hd g a w hs K' Q' fun g' s' a' w' ⟨v, H', K2, h1, h2⟩ h3 => hK' g' s' a' w' (by subst h2; exact hN _ _ _ h1) h3
end
theorem pc_word {H0 : List (Nat × Row)} {K : List V} (a z : Bool) (s S' : ByteArray) (n : Nat) (hn : n ≤ 1000000001) (hS : s ++ decS n ++ ⟨#[32]⟩ = S') (hst : s.size ≤ 1000000) (hl : Lw H0 K) : PCV preT Tryz.prog 80 [.ref 900 0] [.i (n : Int)] (bH 114 a z s H0) K (fun v H' K' => v = .tup [] ∧ H' = bT 114 false S' H0 ∧ K' = K) := by
 have hit := am_Itoa n hn
 have hd := decS_len hn
 cases a
 ·refine PCV.intro (n := 7) ⟨Tryz.func80, rfl, rfl, rfl, rfl⟩ zT16 fun w0 out kx hpre => AW.weaken ?_
  simp only [enum, List.cons_append, List.nil_append, bH]
  apply AW.sr
  refine AL.z ?_
  refine AL.call (post := ?pc0) rfl (sm_callP (args := [_]) (tab_kept _ _ _ _) zT13 ?hc0 ⟨Tryz.func40, rfl, rfl, rfl, rfl⟩ rfl rfl rfl rfl) ?_
  case hc0 => exact hit
  rintro _ rfl -
  try dsimp only
  try simp only [S.put, S.newObj, setL, V.cs, nz, Nat.zero_add, Nat.reduceAdd]
  refine AL.pc [1] (ts := [_]) (args := [_, _]) (post := ?pc1) ?hc1 rfl rfl rfl rfl rfl rfl rfl rfl rfl ?_
  case hc1 => (refine pc_WriteString bokS false z s (decS n) (hl.keepL _ ?_) hd.2 zT15 <;> first | rfl | (simp [V.lowL, V.low]; done))
  rintro _ _ _ ⟨rfl, rfl, rfl⟩
  simp only [back, S.put, List.cons_append, List.nil_append, List.zip_cons_cons, List.zip_nil_left, List.drop_succ_cons, List.drop_zero, List.length_cons, List.length_nil, Nat.zero_add, Nat.reduceAdd]
  apply AL.nil
  try simp only [nd, setL, V.cs, nz, Nat.reduceAdd, nm, ns, enum]
  apply AW.region
  try simp only [S.put, S.newObj, setL, V.cs, nz, Nat.zero_add, Nat.reduceAdd]
  refine AL.pc [] (ts := []) (args := [_, _]) (post := ?pc2) ?hc2 rfl rfl rfl rfl rfl rfl rfl rfl rfl ?_
  case hc2 => (refine pc_Blank bokS true false (s ++ decS n) (hl.keepL _ ?_) (by rw [ByteArray.size_append]; omega) <;> first | rfl | (simp [V.lowL, V.low]; done))
  rintro _ _ _ ⟨rfl, rfl⟩
  simp only [back, S.put, List.cons_append, List.nil_append, List.zip_cons_cons, List.zip_nil_left, List.drop_succ_cons, List.drop_zero, List.length_cons, List.length_nil, Nat.zero_add, Nat.reduceAdd]
  apply AL.nil
  try simp only [nd]
  rw [hS]
  exact ⟨_, Less.same _, [], trivial, rfl, rfl, rfl⟩
 refine PCV.intro (n := 7) ⟨Tryz.func80, rfl, rfl, rfl, rfl⟩ zT16 fun w0 out kx hpre => AW.weaken ?_
 simp only [enum, List.cons_append, List.nil_append, bH]
 apply AW.sr
 refine AL.z ?_
 refine AL.call (post := ?pc3) rfl (sm_callP (args := [_]) (tab_kept _ _ _ _) zT13 ?hc3 ⟨Tryz.func40, rfl, rfl, rfl, rfl⟩ rfl rfl rfl rfl) ?_
 case hc3 => exact hit
 rintro _ rfl -
 try dsimp only
 try simp only [S.put, S.newObj, setL, V.cs, nz, Nat.zero_add, Nat.reduceAdd]
 refine AL.pc [1] (ts := [_]) (args := [_, _]) (post := ?pc4) ?hc4 rfl rfl rfl rfl rfl rfl rfl rfl rfl ?_
 case hc4 => (refine pc_WriteString bokS true z s (decS n) (hl.keepL _ ?_) hd.2 zT15 <;> first | rfl | (simp [V.lowL, V.low]; done))
 rintro _ _ _ ⟨rfl, rfl, rfl⟩
 simp only [back, S.put, List.cons_append, List.nil_append, List.zip_cons_cons, List.zip_nil_left, List.drop_succ_cons, List.drop_zero, List.length_cons, List.length_nil, Nat.zero_add, Nat.reduceAdd]
 apply AL.nil
 try simp only [nd, setL, V.cs, nz, Nat.reduceAdd, nm, ns, enum]
 apply AW.region
 try simp only [S.put, S.newObj, setL, V.cs, nz, Nat.zero_add, Nat.reduceAdd]
 refine AL.pc [] (ts := []) (args := [_, _]) (post := ?pc5) ?hc5 rfl rfl rfl rfl rfl rfl rfl rfl rfl ?_
 case hc5 => (refine pc_Blank bokS true false (s ++ decS n) (hl.keepL _ ?_) (by rw [ByteArray.size_append]; omega) <;> first | rfl | (simp [V.lowL, V.low]; done))
 rintro _ _ _ ⟨rfl, rfl⟩
 simp only [back, S.put, List.cons_append, List.nil_append, List.zip_cons_cons, List.zip_nil_left, List.drop_succ_cons, List.drop_zero, List.length_cons, List.length_nil, Nat.zero_add, Nat.reduceAdd]
 apply AL.nil
 try simp only [nd]
 rw [hS]
 exact ⟨_, Less.same _, [], trivial, rfl, rfl, rfl⟩
theorem sgn_round (cl : List Nat) {l : List Ar} {k : Nat} {a : Ar} {f : Nat} (h : l[k]? = some a) : wdS (f :: (l.take k).flatMap (arB cl)) ++ decS a.i.toNat ++ ⟨#[32]⟩ ++ decS a.o.toNat ++ ⟨#[32]⟩ ++ decS a.w.toNat ++ ⟨#[32]⟩ ++ decS (clG cl a.t.toNat) ++ ⟨#[32]⟩ = wdS (f :: (l.take (k + 1)).flatMap (arB cl)) := by
 rw [wdS_snoc, wdS_snoc, wdS_snoc, wdS_snoc, take_snoc h, List.flatMap_append]
 simp [arB]
theorem sgn_len (cl : List Nat) (l : List Ar) : (l.flatMap (arB cl)).length = 4 * l.length := by
 induction l with
 | nil => rfl
 | cons x l ih => rw [List.flatMap_cons, List.length_append, ih, List.length_cons]; simp [arB]; omega
theorem wdS_pos (f : Nat) (l : List Nat) : 0 < (wdS (f :: l)).size := by
 have : (wdS (f :: l)).size = (wdB (f :: l)).length := by simp [wdS, ByteArray.size]
 rw [this]
 simp [wdB]
 omega
theorem wdS_le (cl : List Nat) (x : St) (n : Int) (hx4 : x.arcs.length ≤ 400) (hf : finOk x.fin = true) (ha : ∀ a ∈ x.arcs, arOk n a = true) (hc : ∀ c ∈ cl, c ≤ 1000) : (wdS (sgN cl x)).size ≤ 20000 := by
 simp only [finOk, decide_eq_true_eq] at hf
 have h1 := wdS_size (sgN cl x) fun m hm => by
  unfold sgN at hm
  rcases List.mem_cons.1 hm with rfl | hm
  ·omega
  obtain ⟨a, h2, h3⟩ := List.mem_flatMap.1 hm
  have h4 := ha a h2
  simp only [arOk, decide_eq_true_eq] at h4
  have h5 : clG cl a.t.toNat ≤ 1000 := by
   unfold clG
   cases h6 : cl[a.t.toNat]? with
   | none => simp
   | some c => exact hc c (List.mem_of_getElem? h6)
  simp only [arB, List.mem_cons, List.not_mem_nil, or_false] at h3
  omega
 have h2 : (wdS (sgN cl x)).size = (wdB (sgN cl x)).length := by simp [wdS, ByteArray.size]
 have h3 : (sgN cl x).length = 1 + 4 * x.arcs.length := by unfold sgN; rw [List.length_cons, sgn_len]; omega
 omega
theorem am_sign (cl : List Nat) (x : St) (n : Int) (hx4 : x.arcs.length ≤ 400) (hf : finOk x.fin = true) (ha : ∀ a ∈ x.arcs, arOk n a = true) (hn : n = cl.length) (hc : ∀ c ∈ cl, c ≤ 1000) : FnP preT Tryz.prog 41 [.agg [.i x.fin, .d (arsD x.arcs)], .d (.sl 1 8 (cl.map encN))] (fun v => v = .s (wdS (sgN cl x))) := by
 obtain ⟨f, A⟩ := x
 simp only at hx4 hf ha
 simp only [finOk, decide_eq_true_eq] at hf
 obtain ⟨f, rfl⟩ := Int.eq_ofNat_of_zero_le hf.1
 have hf1 : f ≤ 1000000001 := by omega
 obtain ⟨la, hla⟩ : ∃ la, A.length = la := ⟨_, rfl⟩
 rw [hla] at hx4
 have hR : sgN cl ⟨(f : Int), A⟩ = f :: A.flatMap (arB cl) := by unfold sgN; simp only [Int.toNat_natCast]
 rw [hR]
 have hsz : ∀ k, k ≤ la → (wdS (f :: (A.take k).flatMap (arB cl))).size ≤ 11 * (1 + 4 * k) := fun k hk => by
  have h1 := wdS_size (f :: (A.take k).flatMap (arB cl)) fun m hm => by
   rcases List.mem_cons.1 hm with rfl | hm
   ·exact hf1
   obtain ⟨a, h2, h3⟩ := List.mem_flatMap.1 hm
   have h4 := ha a (List.mem_of_mem_take h2)
   simp only [arOk, decide_eq_true_eq] at h4
   have h5 : clG cl a.t.toNat ≤ 1000 := by
    unfold clG
    cases h6 : cl[a.t.toNat]? with
    | none => simp
    | some c => exact hc c (List.mem_of_getElem? h6)
   simp only [arB, List.mem_cons, List.not_mem_nil, or_false] at h3
   omega
  have h2 : (wdS (f :: (A.take k).flatMap (arB cl))).size = (wdB (f :: (A.take k).flatMap (arB cl))).length := by simp [wdS, ByteArray.size]
  rw [List.length_cons, sgn_len, List.length_take] at h1
  omega
 clear hR
 have hs32 : (⟨#[32]⟩ : ByteArray).size = 1 := rfl
 have h00 : (⟨#[]⟩ : ByteArray) ++ decS f ++ ⟨#[32]⟩ = wdS (f :: (A.take 0).flatMap (arB cl)) := by
  have := wdS_snoc [] f
  have e : wdS [] = ⟨#[]⟩ := rfl
  rw [e] at this
  simpa using this
 refine FnP.intro (n := 42) ⟨Tryz.func41, rfl, rfl, rfl, rfl⟩ zT8 zT16 fun w0 out hpre => ?_
 apply AW.sr
 refine AL.sm rfl (sm_box 2 rfl rfl rfl rfl rfl) ?_
 refine AL.z ?_
 apply AL.nil
 try simp only [nd, setL, V.cs, nz, Nat.reduceAdd, nm, ns, enum]
 apply AW.sr
 refine AL.sm rfl (sm_alloc (l := [.d (.p (.pointer none)), .d (.p (.slice none 0 0))]) 900 inf114 rfl rfl rfl rfl) ?_
 apply AL.nil
 try simp only [nd, setL, V.cs, nz, Nat.reduceAdd, nm, ns]
 apply AW.seq
 refine AW.adoptH 900 1 901 1 5 rfl rfl rfl zT4 ?_
 apply AW.region
 refine AL.rp rfl rfl (rp_func (vs := [_]) rfl rfl) ?_
 refine AL.z ?_
 apply AL.nil
 try simp only [nd]
 apply AW.seq
 refine AW.less (s' := ⟨42, [(1, .d (.sl 1 8 (cl.map encN))), (2, .ref 2 0), (5, .ref 900 0), (6, .fn 80 [.ref 900 0])], bF 114 true ⟨#[]⟩ [(2, ⟨35, [.i (f : Int), .d (arsD A)], false, 0⟩)], []⟩) Less.a0 ?_
 apply AW.region
 iterate 3 refine AL.z ?_
 try simp only [S.put, S.newObj, setL, V.cs, nz, Nat.zero_add, Nat.reduceAdd]
 refine AL.pcv [1, 2, 5, 6] (ts := [_, _, _, _]) (args := [_]) (post := ?pc6) ?hc6 rfl rfl zT13 rfl rfl rfl rfl rfl rfl rfl ?_
 case hc6 => (refine pc_word false true ⟨#[]⟩ _ f hf1 h00 (by have : (⟨#[]⟩ : ByteArray).size = 0 := rfl; omega) (lw2S f A ?_) <;> first | rfl | (simp [V.lowL, V.low]; done))
 rintro _ _ _ ⟨rfl, rfl, rfl⟩
 simp only [back, S.put, List.cons_append, List.nil_append, List.zip_cons_cons, List.zip_nil_left, List.drop_succ_cons, List.drop_zero, List.length_cons, List.length_nil, Nat.zero_add, Nat.reduceAdd]
 apply AL.nil
 try simp only [nd]
 apply AW.seq
 apply AW.sr
 iterate 4 refine AL.z ?_
 apply AL.nil
 try simp only [nd]
 apply AW.block
 refine AW.loop (fun s' => ∃ k : Nat, k ≤ la ∧ s' = ⟨42, [(1, .d (.sl 1 8 (cl.map encN))), (5, .ref 900 0), (6, .fn 80 [.ref 900 0]), (15, .d (arsD A)), (16, .i la), (17, .i k)], bT 114 false (wdS (f :: (A.take k).flatMap (arB cl))) [], []⟩) (fun s' => la - s'.nat 17) ⟨_, ?_, 0, by omega, rfl⟩ ?_
 ·exact Less.a0
 clear h00
 rintro s' ⟨k, hk, rfl⟩
 by_cases hlt : k < la
 ·obtain ⟨a, hak⟩ := get_lt hla hlt
  have h3 := ha a (List.mem_of_getElem? hak)
  simp only [arOk, decide_eq_true_eq] at h3
  have hrd := sgn_round cl (f := f) hak
  have hs1 := hsz k zT15
  obtain ⟨ai, ao, aw, at'⟩ := a
  simp only at h3 hrd
  obtain ⟨ai, rfl⟩ := Int.eq_ofNat_of_zero_le h3.1.1
  obtain ⟨ao, rfl⟩ := Int.eq_ofNat_of_zero_le h3.2.1.1
  obtain ⟨aw, rfl⟩ := Int.eq_ofNat_of_zero_le h3.2.2.1.1
  obtain ⟨p, rfl⟩ := Int.eq_ofNat_of_zero_le h3.2.2.2.1
  simp only [Int.toNat_natCast] at hrd
  have hpl : p < cl.length := by omega
  have hcp : cl[p]? = some (clG cl p) := by unfold clG; rw [List.getElem?_eq_getElem hpl]; rfl
  have hc4 := hc _ (List.mem_of_getElem? hcp)
  obtain ⟨c, hcd⟩ : ∃ c, clG cl p = c := ⟨_, rfl⟩
  rw [hcd] at hrd hcp hc4
  obtain ⟨S0, hS0⟩ : ∃ S0, wdS (f :: (A.take k).flatMap (arB cl)) = S0 := ⟨_, rfl⟩
  rw [hS0] at hrd hs1 ⊢
  have d1 := decS_len (n := ai) zT15
  have d2 := decS_len (n := ao) zT15
  have d3 := decS_len (n := aw) zT15
  have d4 := decS_len (n := c) zT15
  obtain ⟨S1, e1⟩ : ∃ S1, S0 ++ decS ai ++ ⟨#[32]⟩ = S1 := ⟨_, rfl⟩
  rw [e1] at hrd
  have z1 : S1.size ≤ S0.size + 11 := by rw [← e1, ByteArray.size_append, ByteArray.size_append]; omega
  obtain ⟨S2, e2⟩ : ∃ S2, S1 ++ decS ao ++ ⟨#[32]⟩ = S2 := ⟨_, rfl⟩
  rw [e2] at hrd
  have z2 : S2.size ≤ S1.size + 11 := by rw [← e2, ByteArray.size_append, ByteArray.size_append]; omega
  obtain ⟨S3, e3⟩ : ∃ S3, S2 ++ decS aw ++ ⟨#[32]⟩ = S3 := ⟨_, rfl⟩
  rw [e3] at hrd
  have z3 : S3.size ≤ S2.size + 11 := by rw [← e3, ByteArray.size_append, ByteArray.size_append]; omega
  clear hS0 hcd
  apply AW.sr
  refine AL.z ?_
  apply AL.nil
  try simp only [nd]
  apply AW.seq
  refine AW.condT rfl ?_
  apply AW.skip
  try simp only [thenS]
  apply AW.seq
  apply AW.block
  apply AW.sr
  iterate 2 refine AL.z ?_
  refine AL.sm rfl (sm_alloc (l := [.d (.p (.int .i64 0)), .d (.p (.int .i64 0)), .d (.p (.int .i64 0)), .d (.p (.int .i64 0))]) 8 inf47 rfl (by simp [S.clean, S.put, S.newObj, S.forget, V.has, V.hasL, junkIf, setL, V.cs, hasL_i, strV_has, hasL_d, hasL_b, hasL_s, hasL_n, hasL_rep, hasL_flat, hasL_append, -List.map_set]) rfl rfl) ?_
  refine AL.y ?_
  apply AL.nil
  try simp only [nd, setL, V.cs, nz, Nat.reduceAdd, nm, ns]
  apply AW.seq
  refine AW.less (s' := ⟨42, [(1, .d (.sl 1 8 (cl.map encN))), (5, .ref 900 0), (6, .fn 80 [.ref 900 0]), (15, .d (arsD A)), (16, .i la), (17, .i k), (8, .ref 8 0)], bT 114 false S0 [(8, ⟨47, [.i (ai : Int), .i (ao : Int), .i (aw : Int), .i (p : Int)], false, 0⟩)], []⟩) Less.a0 ?_
  apply AW.region
  iterate 3 refine AL.z ?_
  try simp only [S.put, S.newObj, setL, V.cs, nz, Nat.zero_add, Nat.reduceAdd]
  refine AL.pcv [1, 5, 6, 8, 15, 16, 17] (ts := [_, _, _, _, _, _, _]) (args := [_]) (post := ?pc7) ?hc7 rfl rfl zT13 rfl rfl rfl rfl rfl rfl rfl ?_
  case hc7 => (refine pc_word true false S0 S1 ai zT15 e1 zT15 (lw8S ai ao aw p ?_) <;> first | rfl | (simp [V.lowL, V.low]; done))
  rintro _ _ _ ⟨rfl, rfl, rfl⟩
  simp only [back, S.put, List.cons_append, List.nil_append, List.zip_cons_cons, List.zip_nil_left, List.drop_succ_cons, List.drop_zero, List.length_cons, List.length_nil, Nat.zero_add, Nat.reduceAdd]
  apply AL.nil
  try simp only [nd]
  apply AW.sr
  iterate 3 refine AL.z ?_
  try simp only [S.put, S.newObj, setL, V.cs, nz, Nat.zero_add, Nat.reduceAdd]
  refine AL.pcv [1, 5, 6, 8, 15, 16, 17] (ts := [_, _, _, _, _, _, _]) (args := [_]) (post := ?pc8) ?hc8 rfl rfl zT13 rfl rfl rfl rfl rfl rfl rfl ?_
  case hc8 => (refine pc_word true false S1 S2 ao zT15 e2 zT15 (lw8S ai ao aw p ?_) <;> first | rfl | (simp [V.lowL, V.low]; done))
  rintro _ _ _ ⟨rfl, rfl, rfl⟩
  simp only [back, S.put, List.cons_append, List.nil_append, List.zip_cons_cons, List.zip_nil_left, List.drop_succ_cons, List.drop_zero, List.length_cons, List.length_nil, Nat.zero_add, Nat.reduceAdd]
  apply AL.nil
  try simp only [nd]
  apply AW.sr
  iterate 3 refine AL.z ?_
  try simp only [S.put, S.newObj, setL, V.cs, nz, Nat.zero_add, Nat.reduceAdd]
  refine AL.pcv [1, 5, 6, 8, 15, 16, 17] (ts := [_, _, _, _, _, _, _]) (args := [_]) (post := ?pc9) ?hc9 rfl rfl zT13 rfl rfl rfl rfl rfl rfl rfl ?_
  case hc9 => (refine pc_word true false S2 S3 aw zT15 e3 zT15 (lw8S ai ao aw p ?_) <;> first | rfl | (simp [V.lowL, V.low]; done))
  rintro _ _ _ ⟨rfl, rfl, rfl⟩
  simp only [back, S.put, List.cons_append, List.nil_append, List.zip_cons_cons, List.zip_nil_left, List.drop_succ_cons, List.drop_zero, List.length_cons, List.length_nil, Nat.zero_add, Nat.reduceAdd]
  apply AL.nil
  try simp only [nd]
  apply AW.region
  iterate 6 refine AL.z ?_
  try simp only [S.put, S.newObj, setL, V.cs, nz, Nat.zero_add, Nat.reduceAdd]
  refine AL.pcv [1, 5, 6, 15, 16, 17] (ts := [_, _, _, _, _, _]) (args := [_]) (post := ?pc10) ?hc10 rfl rfl zT13 rfl rfl rfl rfl rfl rfl rfl ?_
  case hc10 => (refine pc_word true false S3 _ c zT15 hrd zT15 (lw8S ai ao aw p ?_) <;> first | rfl | (simp [V.lowL, V.low]; done))
  rintro _ _ _ ⟨rfl, rfl, rfl⟩
  simp only [back, S.put, List.cons_append, List.nil_append, List.zip_cons_cons, List.zip_nil_left, List.drop_succ_cons, List.drop_zero, List.length_cons, List.length_nil, Nat.zero_add, Nat.reduceAdd]
  apply AL.nil
  try simp only [nd]
  apply AW.region
  iterate 2 refine AL.z ?_
  apply AL.nil
  try simp only [nd]
  refine ⟨_, ?_, ⟨k + 1, by omega, rfl⟩, ?_⟩
  ·exact Less.a0
  simp [S.nat, fnd]; omega
 obtain rfl : k = la := by omega
 rw [List.take_of_length_le zT15]
 have hs1 := hsz k zT15
 rw [List.take_of_length_le zT15] at hs1
 have hz1 : false = true ↔ (wdS (f :: A.flatMap (arB cl))).size = 0 := ⟨fun h => (by cases h), fun h => by have := wdS_pos f (A.flatMap (arB cl)); omega⟩
 apply AW.sr
 refine AL.z ?_
 apply AL.nil
 try simp only [nd]
 apply AW.seq
 refine AW.condF rfl ?_
 refine AW.exit ?_
 try simp only [thenS, inBlockS, ↓reduceIte, Nat.reduceEqDiff]
 apply AW.sr
 try simp only [S.put, S.newObj, setL, V.cs, nz, Nat.zero_add, Nat.reduceAdd]
 refine AL.pc [] (ts := []) (args := [_]) (post := ?pc11) ?hc11 rfl rfl rfl rfl rfl rfl rfl rfl rfl ?_
 case hc11 => (refine pc_String false (wdS (f :: A.flatMap (arB cl))) true (lwN ?_) hz1 zT15 <;> first | rfl | (simp [V.lowL, V.low]; done))
 rintro _ _ _ ⟨rfl, rfl, rfl⟩
 simp only [back, S.put, List.cons_append, List.nil_append, List.zip_cons_cons, List.zip_nil_left, List.drop_succ_cons, List.drop_zero, List.length_cons, List.length_nil, Nat.zero_add, Nat.reduceAdd]
 refine AL.z ?_
 apply AL.nil
 try simp only [nd]
 apply AW.ret
 exact ⟨[_], ⟨rfl, trivial⟩, rfl, by simp [tupOf, V.pure, V.has, V.hasL]⟩
section
variable {K : Type} [DecidableEq K]
def mfind : List (K × Int) → K → Nat → Option (Nat × Int)
  | [], _, _ => none
  | (k, v) :: l, a, i => if a = k then some (i, v) else mfind l a (i + 1)
def mget (l : List (K × Int)) (a : K) : Option Int := (mfind l a 0).map (·.2)
def mput (l : List (K × Int)) (a : K) (v : Int) : List (K × Int) := match mfind l a 0 with
  | some (i, _) => l.set i (a, v)
  | none => l ++ [(a, v)]
theorem mfind_shift (a : K) : ∀ (l : List (K × Int)) (i : Nat), mfind l a i = (mfind l a 0).map fun x => (x.1 + i, x.2)
  | [], i => rfl
  | (k, v) :: l, i => by
    simp only [mfind]
    split
    · simp
    rw [mfind_shift a l (i + 1), mfind_shift a l (0 + 1), Option.map_map]
    congr 1
    funext x
    simp [Function.comp]; omega
theorem mfind_some {a : K} : ∀ {l : List (K × Int)} {i : Nat} {v : Int}, mfind l a 0 = some (i, v) → l[i]? = some (a, v)
  | [], i, v, h => by simp [mfind] at h
  | (k, u) :: l, i, v, h => by
    simp only [mfind] at h
    split at h
    · rename_i e
      simp only [Option.some.injEq, Prod.mk.injEq] at h
      obtain ⟨rfl, rfl⟩ := h
      simp [e]
    rw [mfind_shift] at h
    cases h1 : mfind l a 0 with
    | none => rw [h1] at h; cases h
    | some x =>
      rw [h1] at h
      simp only [Option.map_some, Option.some.injEq, Prod.mk.injEq] at h
      obtain ⟨rfl, rfl⟩ := h
      have := mfind_some (v := x.2) (i := x.1) h1
      simpa using this
theorem mget_none {a : K} : ∀ {l : List (K × Int)}, mget l a = none ↔ ∀ x ∈ l, x.1 ≠ a
  | [] => by simp [mget, mfind]
  | (k, u) :: l => by
    have ih := mget_none (a := a) (l := l)
    simp only [mget] at ih ⊢
    simp only [mfind]
    split
    · rename_i e; simp [e]
    rename_i e
    rw [mfind_shift]
    simp only [Option.map_map, Option.map_eq_none_iff] at ih ⊢
    rw [ih]
    simp [Ne.symm e]
theorem mget_cons (k : K) (u : Int) (l : List (K × Int)) (a : K) : mget ((k, u) :: l) a = if a = k then some u else mget l a := by
  simp only [mget, mfind]
  split
  · rfl
  rw [mfind_shift, Option.map_map]; rfl
theorem mget_snoc {l : List (K × Int)} {k : K} {u : Int} (a : K) : mget (l ++ [(k, u)]) a = match mget l a with
  | some v => some v
  | none => if a = k then some u else none := by
  induction l with
  | nil => simp [mget_cons]; simp [mget, mfind]
  | cons x l ih =>
    obtain ⟨k', u'⟩ := x
    rw [List.cons_append, mget_cons, mget_cons, ih]
    split <;> rfl
theorem mput_new {l : List (K × Int)} {a : K} {v : Int} (h : mget l a = none) : mput l a v = l ++ [(a, v)] := by
  unfold mput
  have : mfind l a 0 = none := by simpa [mget] using h
  rw [this]
end
def mrows {K : Type} (enc : K → Value) (l : List (K × Int)) : List (Value × Value) := l.map fun x => (enc x.1, .int .i64 x.2)
/-- How keys are held against each other. -/
structure KeyOk {K : Type} [DecidableEq K] (P : Program) (k : TypeId) (enc : K → Value) : Prop where
  check : ∀ (b : Bool) (a : K) (w : World), (Instr.checkKey b 10000 k (enc a)).run P w = .ok () w
  find : ∀ (l : List (K × Int)) (a : K) (w : World), (Instr.findKey k (enc a) (ments (mrows enc l)).toList).run P w = .ok ((mfind l a 0).map fun x => (x.1, .int .i64 x.2)) w
  same : ∀ a, Instr.sameBits 10000 (enc a) (enc a) = true
theorem run_getMap {P : Program} {w : World} {r : Nat} {es : Array MapEntry} {k : Nat} (hb : w.heap[r]? = some (.map es k)) : (getObj r).run P w = .ok (.map es k) w := by simp [getObj, Sem.run, hb]
theorem run_setMap {P : Program} {w : World} {r : Nat} {es : Array MapEntry} {k : Nat} (o : Obj) (hb : w.heap[r]? = some (.map es k)) : (setObj r o).run P w = .ok () { w with heap := w.heap.setIfInBounds r o } := by simp [setObj, Sem.run, hb]
theorem ments_push (l : List (Value × Value)) (k v : Value) : (ments l).push { key := k, val := v, born := l.length } = ments (l ++ [(k, v)]) := by
  simp [ments, List.zipIdx_append]
theorem ments_size (l : List (Value × Value)) : (ments l).size = l.length := by simp [ments]
theorem ments_get (l : List (Value × Value)) (i : Nat) : (ments l)[i]? = l[i]?.map fun x => { key := x.1, val := x.2, born := i } := by
  simp [ments, List.getElem?_zipIdx]
  cases l[i]? <;> rfl
theorem ments_modify (l : List (Value × Value)) (i : Nat) (k v : Value) (k0 v0 : Value) (h : l[i]? = some (k0, v0)) : (ments l).modify i (fun e => { e with key := k, val := v }) = ments (l.set i (k, v)) := by
  apply Array.ext_getElem?
  intro j
  rw [Array.getElem?_modify, ments_get, ments_get, List.getElem?_set]
  have hi := (List.getElem?_eq_some_iff.1 h).1
  by_cases e : i = j
  · subst e; simp [h, hi]
  simp [e]
mutual
/-- Does a value speak of a map? -/
def D.mps : D → Bool
  | .p _ => false
  | .sl _ _ rows => D.mpsR rows
  | .mp _ => true
  | .mm _ => true
def D.mpsL : List D → Bool
  | [] => false
  | d :: l => D.mps d || D.mpsL l
def D.mpsR : List (List D) → Bool
  | [] => false
  | r :: l => D.mpsL r || D.mpsR l
end
mutual
def V.mps : V → Bool
  | .d x => D.mps x
  | .ad l => D.mpsL l
  | .mp _ _ _ => true
  | .mq _ _ _ => true
  | .ifc _ v => V.mps v
  | .mp2 _ _ _ _ _ _ => true
  | .it _ _ _ _ => true
  | .mit _ _ _ _ _ => true
  | .mm _ _ _ => true
  | .blk _ _ _ => true
  | .agg l => V.mpsL l
  | .tup l => V.mpsL l
  | .fn _ l => V.mpsL l
  | _ => false
def V.mpsL : List V → Bool
  | [] => false
  | v :: l => V.mps v || V.mpsL l
end
theorem D.mpsL_false {l : List D} (h : D.mpsL l = false) : ∀ d ∈ l, D.mps d = false := by
  induction l with
  | nil => simp
  | cons x l ih =>
    simp only [D.mpsL, Bool.or_eq_false_iff] at h
    intro d hd
    rcases List.mem_cons.1 hd with rfl | hd
    · exact h.1
    exact ih h.2 d hd
theorem D.mpsR_false {l : List (List D)} (h : D.mpsR l = false) : ∀ d ∈ l, D.mpsL d = false := by
  induction l with
  | nil => simp
  | cons x l ih =>
    simp only [D.mpsR, Bool.or_eq_false_iff] at h
    intro d hd
    rcases List.mem_cons.1 hd with rfl | hd
    · exact h.1
    exact ih h.2 d hd
theorem V.mpsL_false {l : List V} : V.mpsL l = false ↔ ∀ d ∈ l, V.mps d = false := by
  induction l with
  | nil => simp [V.mpsL]
  | cons x l ih => simp [V.mpsL, ih]
/-- The map r now holds l; of other maps nothing is said. -/
def upM (r : Nat) (l : List (Value × Value)) : V → V
  | .mp k N _ => if k = r then .mp k N l else .junk
  | v => if v.mps then .junk else v
section
variable {c : Cx} {s : S} {o : Oper} {g : Nat → Nat × Nat} {a : Act} {w : World} {Q : Exit → S → Prop}
theorem DRep.nomap {w w' : World} {q : Nat → Prop} {x : D} {v : Value} (h : DRep w q x v) (hsz : w.heap.size ≤ w'.heap.size) (hc : ∀ (b o : Nat) (u : Value), w.cell? ⟨b, o, none⟩ = some u → w'.cell? ⟨b, o, none⟩ = some u) : x.mps = false → DRep w' q x v := by
  induction h with
  | p x => exact fun _ => .p x
  | sl sz bt rows a cap b o f hcp ha hl h1 hr ih =>
    intro hm
    simp only [D.mps] at hm
    refine .sl sz bt rows a cap b o f hcp (fun hne => ?_) hl (fun i j row u h2 h3 => hc _ _ _ (h1 i j row u h2 h3)) fun i j row u h2 h3 => ih i j row u h2 h3 (D.mpsL_false (D.mpsR_false hm row (List.mem_of_getElem? h2)) u (List.mem_of_getElem? h3))
    obtain ⟨e1, e2, e3⟩ := ha hne
    exact ⟨e1, e2, Nat.lt_of_lt_of_le e3 hsz⟩
  | mp l b hb hm => exact fun h => by simp [D.mps] at h
  | mm => exact fun h => by simp [D.mps] at h
theorem VRep.nomap {w w' : World} {q : Nat → Prop} {g : Nat → Nat × Nat} {x : V} {v : Value} (h : VRep w q g x v) (hsz : w.heap.size ≤ w'.heap.size) (hc : ∀ (b o : Nat) (u : Value), w.cell? ⟨b, o, none⟩ = some u → w'.cell? ⟨b, o, none⟩ = some u) : x.mps = false → VRep w' q g x v := by
  induction h with
  | d x v h => exact fun hm => .d x v (h.nomap hsz hc hm)
  | ad row b o f hb h1 hr => exact fun hm => .ad row b o f ⟨hb.1, Nat.lt_of_lt_of_le hb.2 hsz⟩ (fun j u hu => hc _ _ _ (h1 j u hu)) (fun j u hu => (hr j u hu).nomap hsz hc (D.mpsL_false hm u (List.mem_of_getElem? hu)))
  | ref r o => exact fun _ => .ref r o
  | own r sz n hn hcap => exact fun _ => .own r sz n hn hcap
  | ownNil r sz => exact fun _ => .ownNil r sz
  | que r sz o n a cap hn hcap h => exact fun _ => .que r sz o n a cap hn hcap h
  | agg l cs hlen h ih => exact fun hm => .agg l cs hlen fun j u c h1 h2 => ih j u c h1 h2 (V.mpsL_false.1 hm u (List.mem_of_getElem? h1))
  | tup l cs hlen h ih => exact fun hm => .tup l cs hlen fun j u c h1 h2 => ih j u c h1 h2 (V.mpsL_false.1 hm u (List.mem_of_getElem? h1))
  | fn f l cs hlen h ih => exact fun hm => .fn f l cs hlen fun j u c h1 h2 => ih j u c h1 h2 (V.mpsL_false.1 hm u (List.mem_of_getElem? h1))
  | mp r N l hN hm => exact fun h => by simp [V.mps] at h
  | mq => exact fun h => by simp [V.mps] at h
  | mp2 => exact fun h => by simp [V.mps] at h
  | it => exact fun h => by simp [V.mps] at h
  | mit => exact fun h => by simp [V.mps] at h
  | mm => exact fun h => by simp [V.mps] at h
  | blk => exact fun h => by simp [V.mps] at h
  | ifc t v x h ih => exact fun hm => .ifc t v x (ih (by simpa [V.mps] using hm))
  | junk v => exact fun _ => .junk v
/-- A map is written to. -/
theorem Sim.upMap (hs : Sim c g s a w) {r : Nat} {l l' : List (Value × Value)} (hb : w.heap[(g r).1]? = some (.map (ments l) l.length)) (hN : c.w0.heap.size ≤ (g r).1) (hH : ∀ k row, fnd s.H k = some row → V.mpsL row.cells = false) (hK : V.mpsL s.K = false) :
    Sim c g ⟨s.n, s.T.map (fun x => (x.1, upM r l' x.2)), s.H, s.K⟩ a { w with heap := w.heap.setIfInBounds (g r).1 (.map (ments l') l'.length) } := by
  have hlt : (g r).1 < w.heap.size := (Array.getElem?_eq_some_iff.1 hb).1
  obtain ⟨w', hw'⟩ : ∃ w', w' = { w with heap := w.heap.setIfInBounds (g r).1 (.map (ments l') l'.length) } := ⟨_, rfl⟩
  have hsz : w'.heap.size = w.heap.size := by rw [hw']; simp
  have hoth : ∀ b, b ≠ (g r).1 → w'.heap[b]? = w.heap[b]? := fun b hne => by rw [hw']; simp [Array.getElem?_setIfInBounds_ne (Ne.symm hne)]
  have hnew : w'.heap[(g r).1]? = some (.map (ments l') l'.length) := by rw [hw']; simp [hlt]
  have hc : ∀ (b o : Nat) (u : Value), w.cell? ⟨b, o, none⟩ = some u → w'.cell? ⟨b, o, none⟩ = some u := by
    intro b o u h
    by_cases e : b = (g r).1
    · subst e
      simp [World.cell?, hb] at h
    exact (World.cell?_of_block (w := w) (a := ⟨b, o, none⟩) (hoth b e)).trans h
  have hm : ∀ {v x}, v.mps = false → VRep w (qt c s.H g) g v x → VRep w' (qt c s.H g) g v x := fun hv h => h.nomap zT15 hc hv
  rw [← hw']
  refine ⟨hs.size, hs.defers, ?_, hs.nul, ?_, ?_, hs.inj, hs.base, hs.low, ?_⟩
  · intro i v hv
    simp only at hv
    rw [fnd_map] at hv
    cases hu : fnd s.T i with
    | none => rw [hu] at hv; cases hv
    | some u =>
      rw [hu] at hv
      simp only [Option.map_some, Option.some.injEq] at hv
      obtain ⟨x, h1, h2⟩ := hs.tmp i u hu
      refine ⟨x, h1, ?_⟩
      subst hv
      have hgen : ∀ u : V, VRep w (qt c s.H g) g u x → VRep w' (qt c s.H g) g (if u.mps then .junk else u) x := by
        intro u h2
        split
        · exact .junk _
        rename_i hne; exact hm (by simpa using hne) h2
      cases u with
      | mp k N l0 =>
        simp only [upM]
        split
        · rename_i e
          subst e
          cases h2 with
          | mp _ _ _ h3 h4 => exact .mp _ _ _ h3 hnew
        exact .junk _
      | d _ => exact hgen _ h2
      | ad _ => exact hgen _ h2
      | ref _ _ => exact hgen _ h2
      | own _ _ _ _ => exact hgen _ h2
      | que _ _ _ _ => exact hgen _ h2
      | agg _ => exact hgen _ h2
      | tup _ => exact hgen _ h2
      | fn _ _ => exact hgen _ h2
      | mq _ _ _ => exact hgen _ h2
      | ifc _ _ => exact hgen _ h2
      | mp2 _ _ _ _ _ _ => exact hgen _ h2
      | it _ _ _ _ => exact hgen _ h2
      | mit _ _ _ _ _ => exact hgen _ h2
      | mm _ _ _ => exact hgen _ h2
      | blk _ _ _ => exact hgen _ h2
      | junk => exact .junk _
  · intro k row hk hn
    obtain ⟨arr, h1, h2, h3⟩ := hs.obj k row hk hn
    refine ⟨arr, (hoth _ fun e => ?_).trans h1, h2, fun j v hv => ?_⟩
    · rw [e, hb] at h1; cases h1
    obtain ⟨x, h4, h5⟩ := h3 j v hv
    exact ⟨x, h4, hm (V.mpsL_false.1 (hH k row hk) v (List.mem_of_getElem? hv)) h5⟩
  · intro j v x h1 h2
    exact hm (V.mpsL_false.1 hK v (List.mem_of_getElem? h1)) (hs.keep j v x h1 h2)
  refine hs.below.trans ⟨by rw [hw'], by rw [hw'], by rw [hw'], by omega, fun k hk => hoth k ?_⟩
  omega
/-- A name that nothing speaks of may stand for anything. -/
theorem Sim.regauge (h : Sim c g s a w) {r : Nat} (hr : s.clean r = true) (p : Nat × Nat) : Sim c (fun k => if k = r then p else g k) s a w := by
  have hfr : ∀ k row', fnd s.H k = some row' → k ≠ r := fun k row' hk => (S.clean_obj hr hk).1
  have hg : ∀ k row', fnd s.H k = some row' → (if k = r then p else g k) = g k := fun k row' hk => if_neg (hfr k row' hk)
  have hq : ∀ b, qt c s.H g b → b < w.heap.size → qt c s.H (fun k => if k = r then p else g k) b := fun b hb _ => ⟨hb.1, fun k row' hk hn => by show (if k = r then p else g k).1 ≠ b; rw [hg k row' hk]; exact hb.2 k row' hk hn⟩
  have hm : ∀ v x, v.has r = false → VRep w (qt c s.H g) g v x → VRep w (qt c s.H (fun k => if k = r then p else g k)) (fun k => if k = r then p else g k) v x := fun v x hv hx => hx.mono Cells.rfl hq fun k hk => by
    have e : k ≠ r := by rintro rfl; rw [hv] at hk; cases hk
    simp [e]
  refine ⟨h.size, h.defers, ?_, h.nul, ?_, ?_, ?_, ?_, h.low, h.below⟩
  · intro i v hv
    obtain ⟨x, h1, h2⟩ := h.tmp i v hv
    exact ⟨x, h1, hm v x (S.clean_tmp hr hv) h2⟩
  · intro k row' hk hn
    obtain ⟨arr, h1, hz, h2⟩ := h.obj k row' hk hn
    simp only [hg k row' hk]
    refine ⟨arr, h1, hz, fun j v hv => ?_⟩
    obtain ⟨x, h3, h4⟩ := h2 j v hv
    exact ⟨x, h3, hm v x ((S.clean_obj hr hk).2 v (List.mem_of_getElem? hv)) h4⟩
  · intro j v x h1 h2
    exact hm v x (S.clean_keep hr h1) (h.keep j v x h1 h2)
  · intro k k' row1 row2 h1 n1 h2 n2 h3
    simp only [hg k row1 h1, hg k' row2 h2] at h3
    exact h.inj k k' _ _ h1 n1 h2 n2 h3
  intro k row' hk hn
  simp only [hg k row' hk]
  exact h.base k _ hk hn
theorem sm_makeMap (r : Nat) {t : TypeId} (ho : o.op = .makeMap t none) (hr : s.clean r = true) (hd : dok s o = true) : StepM c o s (fun s' => s' = s.put o.dst (.mp r c.w0.heap.size [])) := by
  intro g a w hs K Q hK
  have hb : Below w.heap.size w (w.alloc (.map #[] 0)) := (Below.refl _ _).alloc (Nat.le_refl _) _
  have h1 := (hs.move hb).regauge hr (w.heap.size, 0)
  unfold Oper.wp
  have hexec : (execOp a.eval o).run c.P w = .ok (.value (.map (some w.heap.size))) (w.alloc (.map #[] 0)) := by
    simp [execOp, ho, Instr.makeMap]
  rw [hexec]
  refine hK _ _ _ _ rfl (h1.put o.dst (dok_spec hd) ?_) hb
  have := VRep.mp (w := w.alloc (.map #[] 0)) (q := qt c s.H (fun k => if k = r then (w.heap.size, 0) else g k)) (g := fun k => if k = r then (w.heap.size, 0) else g k) r c.w0.heap.size [] (by simp; exact hs.below.size) (by simp only [if_true]; exact heap_alloc_new w _)
  simpa using this
section
variable {K : Type} [DecidableEq K] {enc : K → Value}
theorem run_lookup {P : Program} {t k e : TypeId} {bt b : Nat} {l : List (K × Int)} {key : K} {ok : Bool} {w : World} (hk : KeyOk P k enc) (hu : P.underlying t = some (.map k e)) (hi : Inf P e 1 bt (.int .i64 0)) (hb : w.heap[b]? = some (.map (ments (mrows enc l)) (mrows enc l).length)) :
    (Instr.lookup t (.map (some b)) (enc key) ok).run P w = .ok (if ok then .tuple #[.int .i64 ((mget l key).getD 0), .bool (mget l key).isSome] else .int .i64 ((mget l key).getD 0)) w := by
  simp only [Instr.lookup, Sem.run_bind, run_underlying hu, Result.andThen_ok, run_getMap hb, Sem.run_pure, hk.check, hk.find]
  unfold mget
  cases h : mfind l key 0 with
  | none => cases ok <;> simp [run_zeroValue hi]
  | some x => cases ok <;> simp
theorem rd_lookup {t k e : TypeId} {bt : Nat} {x y : Operand} {ok : Bool} {r N : Nat} {l : List (K × Int)} {key : K} {v : V} (hk : KeyOk c.P k enc) (hu : c.P.underlying t = some (.map k e)) (hi : Inf c.P e 1 bt (.int .i64 0)) (ho : o.op = .lookup t x y ok) (hx : s.ev x = some (.mp r N (mrows enc l)) ∨ s.ev x = some (.d (.mp (mrows enc l)))) (hy : ∀ g a w, Sim c g s a w → a.eval y = enc key)
    (hv : v = if ok then .tup [.i ((mget l key).getD 0), .b (mget l key).isSome] else .i ((mget l key).getD 0)) : RD c o s v := fun g a w hs => by
  have hx' : ∃ b, a.eval x = .map (some b) ∧ w.heap[b]? = some (.map (ments (mrows enc l)) (mrows enc l).length) := by
    rcases hx with hx | hx
    · have h := hs.ev hx
      generalize a.eval x = u at h
      cases h with
      | mp _ _ _ hN hm => exact ⟨_, rfl, hm⟩
    have h := hs.ev hx
    generalize a.eval x = u at h
    cases h with
    | d _ _ h =>
      cases h with
      | mp _ b hq hm => exact ⟨b, rfl, hm⟩
  obtain ⟨b, hxe, hm⟩ := hx'
  subst hv
  refine ⟨if ok then .tuple #[.int .i64 ((mget l key).getD 0), .bool (mget l key).isSome] else .int .i64 ((mget l key).getD 0), ?_, fun w' hb => ?_⟩
  · cases ok
    · exact .d _ _ (.p _)
    refine .tup [.i ((mget l key).getD 0), .b (mget l key).isSome] [.int .i64 ((mget l key).getD 0), .bool (mget l key).isSome] rfl fun j u z hu hz => ?_
    match j, hu, hz with
    | 0, hu, hz => simp at hu hz; subst hu hz; exact .d _ _ (.p _)
    | 1, hu, hz => simp at hu hz; subst hu hz; exact .d _ _ (.p _)
    | n + 2, hu, hz => simp at hu
  have := run_lookup (ok := ok) (key := key) hk hu hi ((hb.block _ (Array.getElem?_eq_some_iff.1 hm).1).trans hm)
  simp only [execOp, ho, hxe, hy g a w hs, Sem.run_bind, this, Result.andThen_ok]
  rfl
end
section
variable {K : Type} [DecidableEq K] {enc : K → Value}
end
end
section
variable (r : Nat) (l : List (Value × Value))
theorem upM_p (x : Value) : upM r l (.d (.p x)) = .d (.p x) := rfl
theorem upM_sl (sz bt : Nat) (rows : List (List D)) (h : D.mpsR rows = false) : upM r l (.d (.sl sz bt rows)) = .d (.sl sz bt rows) := by simp [upM, V.mps, D.mps, h]
theorem upM_ref (a b : Nat) : upM r l (.ref a b) = .ref a b := rfl
theorem upM_own (a b n : Nat) (z : Bool) : upM r l (.own a b n z) = .own a b n z := rfl
theorem upM_mp (N : Nat) (l0 : List (Value × Value)) : upM r l (.mp r N l0) = .mp r N l := by simp [upM]
theorem upM_junk : upM r l .junk = .junk := rfl
theorem upM_tup (x : Value) (y : Value) : upM r l (.tup [.d (.p x), .d (.p y)]) = .tup [.d (.p x), .d (.p y)] := rfl
theorem mpsR_map {α : Type} (f : α → List D) (hf : ∀ x, D.mpsL (f x) = false) : ∀ l : List α, D.mpsR (l.map f) = false
  | [] => rfl
  | x :: l => by rw [List.map_cons, D.mpsR, hf x, mpsR_map f hf l]; rfl
theorem mpsR_ars (l : List Ar) : D.mpsR (l.map arD) = false := mpsR_map _ (fun _ => rfl) l
theorem mpsR_sts (l : List St) : D.mpsR (l.map stD) = false := mpsR_map _ (fun x => by simp [stD, D.mpsL, D.mps, mpsR_ars]) l
end
theorem ba_beq (a b : ByteArray) : (a == b) = decide (a = b) := by
  cases a with | mk x =>
  cases b with | mk y =>
  show (x == y) = _
  by_cases h : x = y
  · subst h; simp
  have h2 : ¬ (⟨x⟩ : ByteArray) = ⟨y⟩ := fun e => h (congrArg ByteArray.data e)
  simp [h, h2]
section
variable {c : Cx} {s : S} {o : Oper} {g : Nat → Nat × Nat} {a : Act} {w : World} {Q : Exit → S → Prop}
section
variable {K : Type} [DecidableEq K] {enc : K → Value}
end
end
section
variable (y : Bool) (r r' : Nat) (l : List (Value × Value))
end
section
variable {c : Cx} {s : S} {o : Oper}
end
def vrows (l : List (ByteArray × Int)) : List (Value × Value) := l.map fun x => (.string x.1, .agg #[.int .i64 x.2])
theorem findNow_strV (a : ByteArray) : ∀ (l : List (ByteArray × Int)) (i j : Nat), Instr.findNow .string (.string a) (((vrows l).zipIdx j).map fun x => ({ key := x.1.1, val := x.1.2, born := x.2 } : MapEntry)) i = some ((mfind l a i).map fun x => (x.1, .agg #[.int .i64 x.2]))
  | [], i, j => rfl
  | (k, v) :: l, i, j => by
    simp only [vrows, List.map_cons, List.zipIdx_cons, Instr.findNow, Instr.sameNow, mfind]
    by_cases e : a = k
    · subst e; simp [ba_beq]
    have : (a == k) = false := by rw [ba_beq]; simpa using e
    simp only [this, if_neg e]
    exact findNow_strV a l (i + 1) (j + 1)
theorem strV_check {P : Program} {k : TypeId} (hu : P.underlying k = some .string) (b : Bool) (a : ByteArray) (w : World) : (Instr.checkKey b 10000 k (.string a)).run P w = .ok () w := by
  have : ∀ n : Nat, (Instr.checkKey b (n + 1) k (.string a)).run P w = .ok () w := fun n => by simp [Instr.checkKey, run_underlying hu]
  exact this 9999
theorem strV_find {P : Program} {k : TypeId} (hu : P.underlying k = some .string) (l : List (ByteArray × Int)) (a : ByteArray) (w : World) : (Instr.findKey k (.string a) (ments (vrows l)).toList).run P w = .ok ((mfind l a 0).map fun x => (x.1, .agg #[.int .i64 x.2])) w := by
  have := findNow_strV a l 0 0
  simp only [Instr.findKey, Sem.run_bind, run_underlying hu, Result.andThen_ok, ments, List.toList_toArray, this]
  rfl
section
variable {c : Cx} {s : S} {o : Oper}
theorem run_lookupS {P : Program} {t k e : TypeId} {bt b : Nat} {l : List (ByteArray × Int)} {key : ByteArray} {ok : Bool} {w : World} (hk : P.underlying k = some .string) (hu : P.underlying t = some (.map k e)) (hi : Inf P e 1 bt (.agg #[.int .i64 0])) (hb : w.heap[b]? = some (.map (ments (vrows l)) (vrows l).length)) :
    (Instr.lookup t (.map (some b)) (.string key) ok).run P w = .ok (if ok then .tuple #[.agg #[.int .i64 ((mget l key).getD 0)], .bool (mget l key).isSome] else .agg #[.int .i64 ((mget l key).getD 0)]) w := by
  simp only [Instr.lookup, Sem.run_bind, run_underlying hu, Result.andThen_ok, run_getMap hb, Sem.run_pure, strV_check hk, strV_find hk]
  unfold mget
  cases h : mfind l key 0 with
  | none => cases ok <;> simp [run_zeroValue hi]
  | some x => cases ok <;> simp
theorem rd_lookupS {t k e : TypeId} {bt : Nat} {x y : Operand} {r N : Nat} {l : List (ByteArray × Int)} {key : ByteArray} {v : V} (hk : c.P.underlying k = some .string) (hu : c.P.underlying t = some (.map k e)) (hi : Inf c.P e 1 bt (.agg #[.int .i64 0])) (ho : o.op = .lookup t x y true) (hx : s.ev x = some (.mp r N (vrows l))) (hy : s.ev y = some (.s key))
    (hv : v = .tup [.agg [.i ((mget l key).getD 0)], .b (mget l key).isSome]) : RD c o s v := fun g a w hs => by
  have hx' : ∃ b, a.eval x = .map (some b) ∧ w.heap[b]? = some (.map (ments (vrows l)) (vrows l).length) := by
    have h := hs.ev hx
    generalize a.eval x = u at h
    cases h with
    | mp _ _ _ hN hm => exact ⟨_, rfl, hm⟩
  obtain ⟨b, hxe, hm⟩ := hx'
  have hye := VRep.p_eq (hs.ev hy)
  subst hv
  refine ⟨.tuple #[.agg #[.int .i64 ((mget l key).getD 0)], .bool (mget l key).isSome], ?_, fun w' hb => ?_⟩
  · refine .tup _ [.agg #[.int .i64 ((mget l key).getD 0)], .bool (mget l key).isSome] rfl fun j u z hu hz => ?_
    match j, hu, hz with
    | 0, hu, hz =>
      simp at hu hz
      subst hu hz
      refine .agg _ [.int .i64 ((mget l key).getD 0)] rfl fun j u z hu hz => ?_
      match j, hu, hz with
      | 0, hu, hz => simp at hu hz; subst hu hz; exact .d _ _ (.p _)
      | n + 1, hu, hz => simp at hu
    | 1, hu, hz => simp at hu hz; subst hu hz; exact .d _ _ (.p _)
    | n + 2, hu, hz => simp at hu
  have := run_lookupS (ok := true) (key := key) hk hu hi ((hb.block _ (Array.getElem?_eq_some_iff.1 hm).1).trans hm)
  simp only [execOp, ho, hxe, hye, Sem.run_bind, this, Result.andThen_ok]
  rfl
theorem rd_lookupS_hit {t k e : TypeId} {bt : Nat} {x y : Operand} {r N : Nat} {l : List (ByteArray × Int)} {key : ByteArray} {v : Int} (hk : c.P.underlying k = some .string) (hu : c.P.underlying t = some (.map k e)) (hi : Inf c.P e 1 bt (.agg #[.int .i64 0])) (ho : o.op = .lookup t x y true) (hx : s.ev x = some (.mp r N (vrows l))) (hy : s.ev y = some (.s key))
    (hv : mget l key = some v) : RD c o s (.tup [.agg [.i v], .b true]) := rd_lookupS hk hu hi ho hx hy (by rw [hv]; rfl)
theorem rd_lookupS_miss {t k e : TypeId} {bt : Nat} {x y : Operand} {r N : Nat} {l : List (ByteArray × Int)} {key : ByteArray} (hk : c.P.underlying k = some .string) (hu : c.P.underlying t = some (.map k e)) (hi : Inf c.P e 1 bt (.agg #[.int .i64 0])) (ho : o.op = .lookup t x y true) (hx : s.ev x = some (.mp r N (vrows l))) (hy : s.ev y = some (.s key))
    (hv : mget l key = none) : RD c o s (.tup [.agg [.i 0], .b false]) := rd_lookupS hk hu hi ho hx hy (by rw [hv]; rfl)
theorem st_mapUpdateS {t k e : TypeId} {x y z : Operand} {r N : Nat} {l : List (ByteArray × Int)} {key : ByteArray} {v : Int} (hk : c.P.underlying k = some .string) (hu : c.P.underlying t = some (.map k e)) (ho : o.op = .mapUpdate t x y z) (hd : o.dst = none) (hx : s.ev x = some (.mp r N (vrows l))) (hy : s.ev y = some (.s key)) (hz : s.ev z = some (.agg [.i v])) (hm0 : mget l key = none)
    (hN : N = c.w0.heap.size) (hH : s.H.all (fun x => !V.mpsL x.2.cells) = true) (hK : V.mpsL s.K = false) : Step c o s (fun s' => s' = ⟨s.n, s.T.map (fun x => (x.1, upM r (vrows (l ++ [(key, v)])) x.2)), s.H, s.K⟩) := by
  subst hN
  intro g a w hs K' Q hK'
  have hx' : a.eval x = .map (some (g r).1) ∧ c.w0.heap.size ≤ (g r).1 ∧ w.heap[(g r).1]? = some (.map (ments (vrows l)) (vrows l).length) := by
    have h := hs.ev hx
    generalize a.eval x = u at h
    cases h with
    | mp _ _ _ hN hm => exact ⟨rfl, hN, hm⟩
  obtain ⟨hxe, hNb, hm⟩ := hx'
  have hye := VRep.p_eq (hs.ev hy)
  have hze : a.eval z = .agg #[.int .i64 v] := by
    have h := hs.ev hz
    generalize a.eval z = u at h
    cases h with
    | agg _ cs hlen hh =>
      match cs, hlen with
      | [q], _ => rw [VRep.p_eq (hh 0 _ q rfl rfl)]
  have hnf : mfind l key 0 = none := by simpa [mget] using hm0
  have hrun : (Instr.mapUpdate t (.map (some (g r).1)) (.string key) (.agg #[.int .i64 v])).run c.P w = .ok () { w with heap := w.heap.setIfInBounds (g r).1 (.map (ments (vrows (l ++ [(key, v)]))) (vrows (l ++ [(key, v)])).length) } := by
    simp only [Instr.mapUpdate, Sem.run_bind, run_underlying hu, Result.andThen_ok, run_getMap hm, strV_check hk, strV_find hk, hnf, Option.map_none, run_setMap _ hm, ments_push]
    simp [vrows]
  unfold Oper.wp
  have hexec : (execOp a.eval o).run c.P w = .ok .skip { w with heap := w.heap.setIfInBounds (g r).1 (.map (ments (vrows (l ++ [(key, v)]))) (vrows (l ++ [(key, v)])).length) } := by
    simp only [execOp, ho, hxe, hye, hze, Sem.run_bind, hrun, Result.andThen_ok]
    rfl
  rw [hexec]
  simp only [Oper.upon, hd, Act.put]
  refine hK' g _ a _ rfl (hs.upMap hm hNb (fun k row hk => ?_) hK)
  have := List.all_eq_true.1 hH _ (fnd_mem hk)
  simpa using this
theorem rd_len_mpS {x : Operand} {t : TypeId} {k e : TypeId} {r N n : Nat} {l : List (ByteArray × Int)} (hu : c.P.underlying t = some (.map k e)) (ho : o.op = .call { callee := .builtin .len, args := #[x], argTypes := #[t] }) (hx : s.ev x = some (.mp r N (vrows l))) (hn : l.length = n) : RD c o s (.i (n : Int)) := fun g a w hs => by
  subst hn
  have hx' : ∃ b, a.eval x = .map (some b) ∧ w.heap[b]? = some (.map (ments (vrows l)) (vrows l).length) := by
    have h := hs.ev hx
    generalize a.eval x = u at h
    cases h with
    | mp _ _ _ hN hm => exact ⟨_, rfl, hm⟩
  obtain ⟨b, hxe, hm⟩ := hx'
  refine ⟨.int .i64 (l.length : Int), .d _ _ (.p _), fun w' hb => exec_len ho ?_⟩
  have hm' : w'.heap[b]? = some (.map (ments (vrows l)) (vrows l).length) := (hb.block _ (Array.getElem?_eq_some_iff.1 hm).1).trans hm
  have hl : (vrows l).length = l.length := by simp [vrows]
  rw [hxe]
  simp [Builtin.len_, run_underlying hu, run_getMap hm', ments_size, hl]
end
def clB (m : Mach) (L : List Bool) (q : Nat) : Prop := (bInit m q → L[q]? = some true) ∧ (∀ p, L[p]? = some true → bEdge m p q → L[q]? = some true)
theorem b_in (m : Mach) : ∀ x, Rch (bInit m) (bEdge m) x → x < m.states.length := by
 intro x hx
 cases hx with
 | init q h => obtain ⟨s, h, _⟩ := h; exact (List.getElem?_eq_some_iff.1 h).1
 | step q p h e => obtain ⟨s, a, h1, _⟩ := e; exact (List.getElem?_eq_some_iff.1 h1).1
theorem am_BackOf0 (m : Mach) : Fn Tryz.prog 87 [mV m] (fun v => (machE m ≠ 0 ∧ v = .tup [.nil, .i (machE m)]) ∨ (machE m = 0 ∧ v = .tup [.d (boolsD (backL m)), .i (machE m)])) := by
 refine Fn.mach m 0 rfl fun hb hal => ?_
 by_cases h0 : machE m = 0
 ·have hA : backL m = rchL (bInit m) (bEdge m) m.states.length := by unfold backL; rw [if_pos h0]
  have hin := b_in m
  obtain ⟨h60, h400, hst, hz⟩ := machE_zero h0
  obtain ⟨st, sts⟩ := m
  simp only at h60 h400 hst hz hb hal hA hin
  obtain ⟨n, hn⟩ : ∃ n, sts.length = n := ⟨_, rfl⟩
  rw [hn] at h60 hst hz hb hA hin
  refine Fn.intro (n := 68) ⟨Tryz.func87, rfl, rfl, rfl, rfl⟩ zT8 zT16 fun w0 out => ?_
  apply AW.sr
  refine AL.sm rfl (sm_box 1 rfl rfl rfl rfl rfl) ?_
  iterate 2 refine AL.z ?_
  apply AL.nil
  try simp only [nd, setL, V.cs, nz, Nat.reduceAdd, nm, ns, enum]
  apply AW.sr
  refine AL.z ?_
  refine AL.call (post := ?pc0) rfl (sm_call (args := [_]) ?hc0 ⟨Tryz.func30, rfl, rfl, rfl, rfl⟩ rfl rfl rfl rfl) ?_
  case hc0 => exact Fn.eqi (am_Fault ⟨st, sts⟩) h0
  rintro _ rfl -
  try dsimp only
  refine AL.z ?_
  apply AL.nil
  try simp only [nd, setL, V.cs, nz, Nat.reduceAdd, nm, ns]
  apply AW.seq
  apply AW.sr
  iterate 2 refine AL.z ?_
  apply AL.nil
  try simp only [nd]
  refine AW.condF rfl ?_
  apply AW.skip
  try simp only [thenS]
  apply AW.sr
  iterate 4 refine AL.z ?_
  apply AL.nil
  try simp only [nd]
  apply AW.sr
  refine AL.z ?_
  refine AL.sm rfl (sm_make_map 19 V.b (false) Tryz.underlying51 inf4 rfl rfl rfl rfl rfl zT15 zT14 rfl rfl) ?_
  refine AL.z ?_
  apply AL.nil
  try simp only [nd, setL, V.cs, nz, Nat.reduceAdd, nm, ns]
  apply AW.seq
  apply AW.sr
  refine AL.z ?_
  apply AL.nil
  try simp only [nd]
  apply AW.block
  refine AW.loop (fun s' => ∃ (k : Nat) (L : List Bool), k ≤ n + 1 ∧ Rnd (bInit ⟨st, sts⟩) (bEdge ⟨st, sts⟩) n k (fun _ => True) L ∧ s' = ⟨68, [(1, .ref 1 0), (5, .i n), (6, .own 19 1 n false), (7, .i k)], [(1, ⟨24, [.i st, .d (stsD sts)], false, 0⟩), (19, ⟨4, L.map V.b, false, 1⟩)], []⟩) (fun s' => n + 1 - s'.nat 7) ⟨_, ?_, 0, List.replicate n false, by omega, Rnd.start fun _ => trivial, rfl⟩ ?_
  ·exact Less.a0
  rintro s' ⟨k, L, hk, hR, rfl⟩
  by_cases hlt : k ≤ n
  ·skip
   apply AW.seq
   apply AW.sr
   iterate 3 refine AL.z ?_
   apply AL.nil
   try simp only [nd]
   refine AW.condT rfl ?_
   apply AW.skip
   try simp only [thenS]
   apply AW.seq
   apply AW.block
   apply AW.sr
   refine AL.z ?_
   apply AL.nil
   try simp only [nd]
   apply AW.block
   refine AW.loop (fun s' => ∃ (q : Nat) (L : List Bool), q ≤ n ∧ Rnd (bInit ⟨st, sts⟩) (bEdge ⟨st, sts⟩) n k (fun L => ∀ q', q' < q → clB ⟨st, sts⟩ L q') L ∧ s' = ⟨68, [(1, .ref 1 0), (5, .i n), (6, .own 19 1 n false), (7, .i k), (8, .i q)], [(1, ⟨24, [.i st, .d (stsD sts)], false, 0⟩), (19, ⟨4, L.map V.b, false, 1⟩)], []⟩) (fun s' => n - s'.nat 8) ⟨_, ?_, 0, L, by omega, hR.skip fun _ q' h => absurd h zT15, rfl⟩ ?_
   ·exact Less.a0
   rintro s' ⟨q, L, hq, hR, rfl⟩
   by_cases hlq : q < n
   ·obtain ⟨x, hx⟩ := get_lt hn hlq
    obtain ⟨la, hla⟩ : ∃ n, x.arcs.length = n := ⟨_, rfl⟩
    have hla' := hal x (List.mem_of_getElem? hx)
    rw [hla] at hla'
    apply AW.seq
    apply AW.sr
    iterate 3 refine AL.z ?_
    apply AL.nil
    try simp only [nd]
    refine AW.condT rfl ?_
    apply AW.skip
    try simp only [thenS]
    apply AW.seq
    apply AW.block
    refine AW.seqc (fun s' => ∃ L : List Bool, Rnd (bInit ⟨st, sts⟩) (bEdge ⟨st, sts⟩) n k (fun L => (∀ q', q' < q → clB ⟨st, sts⟩ L q') ∧ (bInit ⟨st, sts⟩ q → L[q]? = some true)) L ∧ s' = ⟨68, [(1, .ref 1 0), (5, .i n), (6, .own 19 1 n false), (7, .i k), (8, .i q)], [(1, ⟨24, [.i st, .d (stsD sts)], false, 0⟩), (19, ⟨4, L.map V.b, false, 1⟩)], []⟩) ?_ ?_
    ·skip
     by_cases hqs : x.fin = 1000000001
     ·apply AW.seq
      apply AW.region
      iterate 7 refine AL.z ?_
      apply AL.nil
      try simp only [nd]
      refine AW.condF rfl ?_
      apply AW.skip
      try simp only [thenS]
      refine ⟨_, ?_, L, hR.skip (fun h => ⟨h, fun ⟨s, h1, h2⟩ => ?_⟩), rfl⟩
      ·exact Less.a0
      simp only at h1
      rw [hx] at h1
      simp only [Option.some.injEq] at h1
      subst h1
      exact absurd hqs h2
     have hlL : q < L.length := by rw [hR.1]; exact hlq
     apply AW.sr
     iterate 7 refine AL.z ?_
     apply AL.nil
     try simp only [nd]
     refine AW.condT rfl ?_
     apply AW.region
     iterate 3 refine AL.z ?_
     refine AL.st rfl (st_store_map2 inf4 rfl rfl rfl rfl rfl rfl rfl rfl zT9) ?_
     apply AL.nil
     try simp only [nd, setL, V.cs, nz, Nat.reduceAdd, nm, ns]
     refine ⟨_, ?_, L.set q true, hR.set hlq (.inl ⟨x, hx, hqs⟩) (fun h1 h2 => ⟨h2, fun _ => h1⟩), rfl⟩
     exact Less.a0
    rintro s' ⟨L, hR, rfl⟩
    apply AW.sr
    refine AL.z ?_
    apply AL.nil
    try simp only [nd]
    apply AW.block
    refine AW.loop (fun s' => ∃ (i : Nat) (L : List Bool), i ≤ la ∧ Rnd (bInit ⟨st, sts⟩) (bEdge ⟨st, sts⟩) n k (fun L => (∀ q', q' < q → clB ⟨st, sts⟩ L q') ∧ (bInit ⟨st, sts⟩ q → L[q]? = some true) ∧ (∀ (j : Nat) (a : Ar) (p : Nat), j < i → x.arcs[j]? = some a → a.t = (p : Int) → L[p]? = some true → L[q]? = some true)) L ∧ s' = ⟨68, [(1, .ref 1 0), (5, .i n), (6, .own 19 1 n false), (7, .i k), (8, .i q), (9, .i i)], [(1, ⟨24, [.i st, .d (stsD sts)], false, 0⟩), (19, ⟨4, L.map V.b, false, 1⟩)], []⟩) (fun s' => la - s'.nat 9) ⟨_, ?_, 0, L, by omega, hR.skip fun h => ⟨h.1, h.2, fun j a p h => absurd h zT15⟩, rfl⟩ ?_
    ·exact Less.a0
    rintro s' ⟨i, L, hi, hR, rfl⟩
    by_cases hil : i < la
    ·obtain ⟨y, hy⟩ := get_lt hla hil
     have hyt := (hz x (List.mem_of_getElem? hx)).2 y (List.mem_of_getElem? hy)
     obtain ⟨yi, yo, yw, yt⟩ := y
     simp only [arOk, decide_eq_true_eq] at hyt
     obtain ⟨p, rfl⟩ : ∃ p : Nat, yt = p := ⟨yt.toNat, by omega⟩
     have hpn : p < n := by omega
     have hlL : q < L.length := by rw [hR.1]; exact hlq
     obtain ⟨b, hb⟩ := get_lt hR.1 hpn
     cases b with
     | true =>
      apply AW.seq
      apply AW.sr
      iterate 9 refine AL.z ?_
      apply AL.nil
      try simp only [nd]
      refine AW.condT rfl ?_
      apply AW.skip
      try simp only [thenS]
      apply AW.seq
      apply AW.block
      apply AW.sr
      iterate 13 refine AL.z ?_
      apply AL.nil
      try simp only [nd]
      refine AW.condT rfl ?_
      apply AW.region
      iterate 3 refine AL.z ?_
      refine AL.st rfl (st_store_map2 inf4 rfl rfl rfl rfl rfl rfl rfl rfl zT9) ?_
      apply AL.nil
      try simp only [nd, setL, V.cs, nz, Nat.reduceAdd, nm, ns]
      apply AW.region
      iterate 3 refine AL.z ?_
      apply AL.nil
      try simp only [nd]
      refine ⟨_, ?_, ⟨i + 1, L.set q true, by omega, hR.set hlq (.inr ⟨p, hb, x, _, hx, List.mem_of_getElem? hy, rfl⟩) (fun h1 ⟨h2, h3, h4⟩ => ⟨h2, h3, fun _ _ _ _ _ _ _ => h1⟩), rfl⟩, ?_⟩
      ·exact Less.a0
      simp [S.nat, fnd]; omega
     | false =>
      apply AW.seq
      apply AW.sr
      iterate 9 refine AL.z ?_
      apply AL.nil
      try simp only [nd]
      refine AW.condT rfl ?_
      apply AW.skip
      try simp only [thenS]
      apply AW.seq
      apply AW.block
      apply AW.sr
      iterate 13 refine AL.z ?_
      apply AL.nil
      try simp only [nd]
      refine AW.condF rfl ?_
      apply AW.skip
      try simp only [thenS]
      apply AW.region
      iterate 3 refine AL.z ?_
      apply AL.nil
      try simp only [nd]
      refine ⟨_, ?_, ⟨i + 1, L, by omega, hR.skip (fun ⟨h2, h3, h4⟩ => ⟨h2, h3, fun j a r hj ha hr ht => ?_⟩), rfl⟩, ?_⟩
      ·exact Less.a0
      ·by_cases e : j = i
       ·subst e
        rw [hy] at ha
        simp only [Option.some.injEq] at ha
        subst ha
        simp only at hr
        obtain rfl : p = r := by omega
        rw [hb] at ht
        simp at ht
       exact h4 j a r zT15 ha hr ht
      simp [S.nat, fnd]; omega
    skip
    apply AW.seq
    apply AW.sr
    iterate 9 refine AL.z ?_
    apply AL.nil
    try simp only [nd]
    refine AW.condF rfl ?_
    refine AW.exit ?_
    try simp only [thenS, inBlockS, ↓reduceIte, Nat.reduceEqDiff]
    apply AW.region
    iterate 3 refine AL.z ?_
    apply AL.nil
    try simp only [nd]
    refine ⟨_, ?_, ⟨q + 1, L, by omega, hR.skip (fun ⟨h1, h2, h3⟩ q' hq' => ?_), rfl⟩, ?_⟩
    ·exact Less.a0
    ·by_cases e : q' = q
     ·subst e
      refine ⟨h2, fun p hp he => ?_⟩
      obtain ⟨s, a, h4, h5, h6⟩ := he
      simp only at h4
      rw [hx] at h4
      simp only [Option.some.injEq] at h4
      subst h4
      obtain ⟨j, hj⟩ := List.getElem?_of_mem h5
      have hjl : j < la := by rw [← hla]; exact (List.getElem?_eq_some_iff.1 hj).1
      exact h3 j a p zT15 hj h6 hp
     exact h1 q' zT15
    simp [S.nat, fnd]; omega
   skip
   apply AW.seq
   apply AW.sr
   iterate 3 refine AL.z ?_
   apply AL.nil
   try simp only [nd]
   refine AW.condF rfl ?_
   refine AW.exit ?_
   try simp only [thenS, inBlockS, ↓reduceIte, Nat.reduceEqDiff]
   apply AW.region
   iterate 3 refine AL.z ?_
   apply AL.nil
   try simp only [nd]
   refine ⟨_, ?_, ⟨k + 1, L, by omega, hR.next (fun h => ?_) (fun _ => trivial), rfl⟩, ?_⟩
   ·exact Less.a0
   ·intro y hy hj
    have hyn : y < n := by rw [hR.1] at hy; exact hy
    rcases hj with hj | ⟨z, h1, h2⟩
    ·exact (h y zT15).1 hj
    have hzn : z < n := by have := (List.getElem?_eq_some_iff.1 h1).1; rw [hR.1] at this; exact this
    exact (h y zT15).2 z h1 h2
   simp [S.nat, fnd]; omega
  skip
  apply AW.seq
  apply AW.sr
  iterate 3 refine AL.z ?_
  apply AL.nil
  try simp only [nd]
  refine AW.condF rfl ?_
  refine AW.exit ?_
  try simp only [thenS, inBlockS, ↓reduceIte, Nat.reduceEqDiff]
  apply AW.seq
  have hL := hR.done zT15 hin
  refine AW.freeze 6 1 (L.map fun b => [.p (.bool b)]) rfl rfl rfl (by rw [List.length_map, hR.1]) zT15 (rows1 rfl) ?_
  apply AW.region
  iterate 3 refine AL.z ?_
  apply AL.nil
  try simp only [nd]
  apply AW.ret
  exact ⟨[_, _], ⟨rfl, rfl, trivial⟩, .inr ⟨h0, by rw [h0, hA, ← hL]; rfl⟩, by simp [tupOf, V.pure, V.has, V.hasL]⟩
 obtain ⟨st, sts⟩ := m
 obtain ⟨e, he⟩ : ∃ e, machE ⟨st, sts⟩ = e := ⟨_, rfl⟩
 rw [he] at h0 ⊢
 refine Fn.intro (n := 68) ⟨Tryz.func87, rfl, rfl, rfl, rfl⟩ zT8 zT16 fun w0 out => ?_
 apply AW.sr
 refine AL.sm rfl (sm_box 1 rfl rfl rfl rfl rfl) ?_
 iterate 2 refine AL.z ?_
 apply AL.nil
 try simp only [nd, setL, V.cs, nz, Nat.reduceAdd, nm, ns, enum]
 apply AW.sr
 refine AL.z ?_
 refine AL.call (post := ?pc1) rfl (sm_call (args := [_]) ?hc1 ⟨Tryz.func30, rfl, rfl, rfl, rfl⟩ rfl rfl rfl rfl) ?_
 case hc1 => exact Fn.eqi (am_Fault ⟨st, sts⟩) he
 rintro _ rfl -
 try dsimp only
 refine AL.z ?_
 apply AL.nil
 try simp only [nd, setL, V.cs, nz, Nat.reduceAdd, nm, ns]
 apply AW.seq
 apply AW.sr
 iterate 2 refine AL.z ?_
 apply AL.nil
 try simp only [nd]
 refine AW.condT rfl ?_
 apply AW.sr
 iterate 3 refine AL.z ?_
 apply AL.nil
 try simp only [nd]
 apply AW.ret
 exact ⟨[_, _], ⟨rfl, rfl, trivial⟩, .inl ⟨h0, rfl⟩, by simp [tupOf, V.pure, V.has, V.hasL]⟩
theorem backL_wk (m : Mach) (v : V) (h : (machE m ≠ 0 ∧ v = .tup [.nil, .i (machE m)]) ∨ (machE m = 0 ∧ v = .tup [.d (boolsD (backL m)), .i (machE m)])) (_ : v.pure) : ∃ v', v' = .tup [.d (boolsD (backL m)), .i (machE m)] ∧ v'.pure ∧ WkR v' v := by
 refine ⟨_, rfl, by simp [V.pure, V.has, V.hasL], ?_⟩
 rcases h with ⟨h0, rfl⟩ | ⟨h0, rfl⟩
 ·have : backL m = [] := by unfold backL; rw [if_neg h0]
  rw [this]
  exact WkR.nil1 1 1 _
 exact .one (.refl _)
theorem am_BackOf (m : Mach) : Fn Tryz.prog 87 [mV m] (fun v => v = .tup [.d (boolsD (backL m)), .i (machE m)]) := (am_BackOf0 m).wk (backL_wk m)
def clA (m : Mach) (L : List Bool) (q : Nat) : Prop := (aInit m q → L[q]? = some true) ∧ (L[q]? = some true → ∀ p, aEdge m q p → L[p]? = some true)
theorem a_in {m : Mach} (h : machE m = 0) : ∀ x, Rch (aInit m) (aEdge m) x → x < m.states.length := by
 intro x hx
 obtain ⟨_, _, _, hz⟩ := machE_zero h
 cases hx with
 | init q h => exact h.2
 | step q p h e =>
  obtain ⟨s, a, h1, h2, h3⟩ := e
  have h4 := (hz s (List.mem_of_getElem? h1)).2 a h2
  simp only [arOk, decide_eq_true_eq] at h4
  omega
theorem am_AheadOf0 (m : Mach) : Fn Tryz.prog 86 [mV m] (fun v => (machE m ≠ 0 ∧ v = .tup [.nil, .i (machE m)]) ∨ (machE m = 0 ∧ v = .tup [.d (boolsD (aheadL m)), .i (machE m)])) := by
 refine Fn.mach m 0 rfl fun hb hal => ?_
 by_cases h0 : machE m = 0
 ·have hA : aheadL m = rchL (aInit m) (aEdge m) m.states.length := by unfold aheadL; rw [if_pos h0]
  have hin := a_in h0
  obtain ⟨h60, h400, hst, hz⟩ := machE_zero h0
  obtain ⟨st, sts⟩ := m
  simp only at h60 h400 hst hz hb hal hA hin
  obtain ⟨n, hn⟩ : ∃ n, sts.length = n := ⟨_, rfl⟩
  rw [hn] at h60 hst hz hb hA hin
  refine Fn.intro (n := 67) ⟨Tryz.func86, rfl, rfl, rfl, rfl⟩ zT8 zT16 fun w0 out => ?_
  apply AW.sr
  refine AL.sm rfl (sm_box 1 rfl rfl rfl rfl rfl) ?_
  iterate 2 refine AL.z ?_
  apply AL.nil
  try simp only [nd, setL, V.cs, nz, Nat.reduceAdd, nm, ns, enum]
  apply AW.sr
  refine AL.z ?_
  refine AL.call (post := ?pc2) rfl (sm_call (args := [_]) ?hc2 ⟨Tryz.func30, rfl, rfl, rfl, rfl⟩ rfl rfl rfl rfl) ?_
  case hc2 => exact Fn.eqi (am_Fault ⟨st, sts⟩) h0
  rintro _ rfl -
  try dsimp only
  refine AL.z ?_
  apply AL.nil
  try simp only [nd, setL, V.cs, nz, Nat.reduceAdd, nm, ns]
  apply AW.seq
  apply AW.sr
  iterate 2 refine AL.z ?_
  apply AL.nil
  try simp only [nd]
  refine AW.condF rfl ?_
  apply AW.skip
  try simp only [thenS]
  apply AW.sr
  iterate 4 refine AL.z ?_
  apply AL.nil
  try simp only [nd]
  apply AW.sr
  refine AL.z ?_
  refine AL.sm rfl (sm_make_map 19 V.b (false) Tryz.underlying51 inf4 rfl rfl rfl rfl rfl zT15 zT14 rfl rfl) ?_
  refine AL.z ?_
  apply AL.nil
  try simp only [nd, setL, V.cs, nz, Nat.reduceAdd, nm, ns]
  apply AW.seq
  apply AW.sr
  refine AL.z ?_
  apply AL.nil
  try simp only [nd]
  apply AW.block
  refine AW.loop (fun s' => ∃ (k : Nat) (L : List Bool), k ≤ n + 1 ∧ Rnd (aInit ⟨st, sts⟩) (aEdge ⟨st, sts⟩) n k (fun _ => True) L ∧ s' = ⟨67, [(1, .ref 1 0), (5, .i n), (6, .own 19 1 n false), (7, .i k)], [(1, ⟨24, [.i st, .d (stsD sts)], false, 0⟩), (19, ⟨4, L.map V.b, false, 1⟩)], []⟩) (fun s' => n + 1 - s'.nat 7) ⟨_, ?_, 0, List.replicate n false, by omega, Rnd.start fun _ => trivial, rfl⟩ ?_
  ·exact Less.a0
  rintro s' ⟨k, L, hk, hR, rfl⟩
  by_cases hlt : k ≤ n
  ·skip
   apply AW.seq
   apply AW.sr
   iterate 3 refine AL.z ?_
   apply AL.nil
   try simp only [nd]
   refine AW.condT rfl ?_
   apply AW.skip
   try simp only [thenS]
   apply AW.seq
   apply AW.block
   apply AW.sr
   refine AL.z ?_
   apply AL.nil
   try simp only [nd]
   apply AW.block
   refine AW.loop (fun s' => ∃ (q : Nat) (L : List Bool), q ≤ n ∧ Rnd (aInit ⟨st, sts⟩) (aEdge ⟨st, sts⟩) n k (fun L => ∀ q', q' < q → clA ⟨st, sts⟩ L q') L ∧ s' = ⟨67, [(1, .ref 1 0), (5, .i n), (6, .own 19 1 n false), (7, .i k), (8, .i q)], [(1, ⟨24, [.i st, .d (stsD sts)], false, 0⟩), (19, ⟨4, L.map V.b, false, 1⟩)], []⟩) (fun s' => n - s'.nat 8) ⟨_, ?_, 0, L, by omega, hR.skip fun _ q' h => absurd h zT15, rfl⟩ ?_
   ·exact Less.a0
   rintro s' ⟨q, L, hq, hR, rfl⟩
   by_cases hlq : q < n
   ·obtain ⟨x, hx⟩ := get_lt hn hlq
    obtain ⟨la, hla⟩ : ∃ n, x.arcs.length = n := ⟨_, rfl⟩
    have hla' := hal x (List.mem_of_getElem? hx)
    rw [hla] at hla'
    apply AW.seq
    apply AW.sr
    iterate 3 refine AL.z ?_
    apply AL.nil
    try simp only [nd]
    refine AW.condT rfl ?_
    apply AW.skip
    try simp only [thenS]
    apply AW.seq
    apply AW.block
    refine AW.seqc (fun s' => ∃ L : List Bool, Rnd (aInit ⟨st, sts⟩) (aEdge ⟨st, sts⟩) n k (fun L => (∀ q', q' < q → clA ⟨st, sts⟩ L q') ∧ (aInit ⟨st, sts⟩ q → L[q]? = some true)) L ∧ s' = ⟨67, [(1, .ref 1 0), (5, .i n), (6, .own 19 1 n false), (7, .i k), (8, .i q)], [(1, ⟨24, [.i st, .d (stsD sts)], false, 0⟩), (19, ⟨4, L.map V.b, false, 1⟩)], []⟩) ?_ ?_
    ·skip
     by_cases hqs : (q : Int) = st
     ·have hlL : q < L.length := by rw [hR.1]; exact hlq
      apply AW.sr
      iterate 4 refine AL.z ?_
      apply AL.nil
      try simp only [nd]
      refine AW.condT rfl ?_
      apply AW.region
      iterate 3 refine AL.z ?_
      refine AL.st rfl (st_store_map2 inf4 rfl rfl rfl rfl rfl rfl rfl rfl zT9) ?_
      apply AL.nil
      try simp only [nd, setL, V.cs, nz, Nat.reduceAdd, nm, ns]
      refine ⟨_, ?_, L.set q true, hR.set hlq (.inl ⟨hqs.symm, by simp only [hn]; exact hlq⟩) (fun h1 h2 => ⟨h2, fun _ => h1⟩), rfl⟩
      exact Less.a0
     skip
     apply AW.sr
     iterate 4 refine AL.z ?_
     apply AL.nil
     try simp only [nd]
     refine AW.condF rfl ?_
     apply AW.skip
     try simp only [thenS]
     refine ⟨_, ?_, L, hR.skip (fun h => ⟨h, fun h1 => absurd h1.1.symm hqs⟩), rfl⟩
     exact Less.a0
    rintro s' ⟨L, hR, rfl⟩
    apply AW.sr
    refine AL.z ?_
    apply AL.nil
    try simp only [nd]
    apply AW.block
    refine AW.loop (fun s' => ∃ (i : Nat) (L : List Bool), i ≤ la ∧ Rnd (aInit ⟨st, sts⟩) (aEdge ⟨st, sts⟩) n k (fun L => (∀ q', q' < q → clA ⟨st, sts⟩ L q') ∧ (aInit ⟨st, sts⟩ q → L[q]? = some true) ∧ (L[q]? = some true → ∀ (j : Nat) (a : Ar) (p : Nat), j < i → x.arcs[j]? = some a → a.t = (p : Int) → L[p]? = some true)) L ∧ s' = ⟨67, [(1, .ref 1 0), (5, .i n), (6, .own 19 1 n false), (7, .i k), (8, .i q), (9, .i i)], [(1, ⟨24, [.i st, .d (stsD sts)], false, 0⟩), (19, ⟨4, L.map V.b, false, 1⟩)], []⟩) (fun s' => la - s'.nat 9) ⟨_, ?_, 0, L, by omega, hR.skip fun h => ⟨h.1, h.2, fun _ j a p h => absurd h zT15⟩, rfl⟩ ?_
    ·exact Less.a0
    rintro s' ⟨i, L, hi, hR, rfl⟩
    obtain ⟨b, hb⟩ := get_lt hR.1 hlq
    have fin : (i < la → b = false) → Rnd (aInit ⟨st, sts⟩) (aEdge ⟨st, sts⟩) n k (fun L => ∀ q', q' < q + 1 → clA ⟨st, sts⟩ L q') L := by
     intro hf
     refine ⟨hR.1, hR.2.1, hR.2.2.imp_right (Or.imp_right fun ⟨h0, h1, h2, h3⟩ => ⟨h0, fun q' hq' => ?_⟩)⟩
     by_cases e : q' = q
     ·subst e
      refine ⟨h2, fun ht p he => ?_⟩
      obtain ⟨s, a, h4, h5, h6⟩ := he
      simp only at h4
      rw [hx] at h4
      simp only [Option.some.injEq] at h4
      subst h4
      obtain ⟨j, hj⟩ := List.getElem?_of_mem h5
      have hjl : j < la := by rw [← hla]; exact (List.getElem?_eq_some_iff.1 hj).1
      refine h3 ht j a p ?_ hj h6
      by_cases hil : i < la
      ·rw [hb, hf hil] at ht; simp at ht
      omega
     exact h1 q' zT15
    by_cases hil : i < la
    ·cases b with
     | true =>
      obtain ⟨y, hy⟩ := get_lt hla hil
      have hyt := (hz x (List.mem_of_getElem? hx)).2 y (List.mem_of_getElem? hy)
      obtain ⟨yi, yo, yw, yt⟩ := y
      simp only [arOk, decide_eq_true_eq] at hyt
      obtain ⟨p, rfl⟩ : ∃ p : Nat, yt = p := ⟨yt.toNat, by omega⟩
      have hpn : p < n := by omega
      have hlL : p < L.length := by rw [hR.1]; exact hpn
      apply AW.seq
      apply AW.sr
      iterate 10 refine AL.z ?_
      iterate 4 refine AL.zy ?_
      refine AL.z ?_
      apply AL.nil
      try simp only [nd]
      refine AW.condT rfl ?_
      apply AW.skip
      try simp only [thenS]
      apply AW.seq
      apply AW.block
      apply AW.region
      iterate 12 refine AL.z ?_
      refine AL.st rfl (st_store_map2 inf4 rfl rfl rfl rfl rfl rfl rfl rfl zT9) ?_
      apply AL.nil
      try simp only [nd, setL, V.cs, nz, Nat.reduceAdd, nm, ns]
      apply AW.region
      iterate 3 refine AL.z ?_
      apply AL.nil
      try simp only [nd]
      refine ⟨_, ?_, ⟨i + 1, L.set p true, by omega, hR.set hpn (.inr ⟨q, hb, x, _, hx, List.mem_of_getElem? hy, rfl⟩) (fun h1 ⟨h2, h3, h4⟩ => ⟨h2, h3, fun h5 j a r hj ha hr => ?_⟩), rfl⟩, ?_⟩
      ·exact Less.a0
      ·by_cases e : j = i
       ·subst e
        rw [hy] at ha
        simp only [Option.some.injEq] at ha
        subst ha
        simp only at hr
        obtain rfl : p = r := by omega
        exact h1
       exact h4 h5 j a r zT15 ha hr
      simp [S.nat, fnd]; omega
     | false =>
      have hR' := fin (fun _ => rfl)
      apply AW.seq
      apply AW.sr
      iterate 10 refine AL.z ?_
      iterate 4 refine AL.zy ?_
      refine AL.z ?_
      apply AL.nil
      try simp only [nd]
      refine AW.condF rfl ?_
      refine AW.exit ?_
      try simp only [thenS, inBlockS, ↓reduceIte, Nat.reduceEqDiff]
      apply AW.region
      iterate 3 refine AL.z ?_
      apply AL.nil
      try simp only [nd]
      refine ⟨_, ?_, ⟨q + 1, L, by omega, hR', rfl⟩, ?_⟩
      ·exact Less.a0
      simp [S.nat, fnd]; omega
    have hR' := fin (fun h => absurd h hil)
    apply AW.seq
    apply AW.sr
    iterate 10 refine AL.z ?_
    refine AL.no rfl rfl rfl rfl ?_
    refine AL.no rfl rfl rfl rfl ?_
    refine AL.no rfl rfl rfl rfl ?_
    refine AL.no rfl rfl rfl rfl ?_
    refine AL.z ?_
    apply AL.nil
    try simp only [nd]
    refine AW.condF rfl ?_
    refine AW.exit ?_
    try simp only [thenS, inBlockS, ↓reduceIte, Nat.reduceEqDiff]
    apply AW.region
    iterate 3 refine AL.z ?_
    apply AL.nil
    try simp only [nd]
    refine ⟨_, ?_, ⟨q + 1, L, by omega, hR', rfl⟩, ?_⟩
    ·exact Less.a0
    simp [S.nat, fnd]; omega
   skip
   apply AW.seq
   apply AW.sr
   iterate 3 refine AL.z ?_
   apply AL.nil
   try simp only [nd]
   refine AW.condF rfl ?_
   refine AW.exit ?_
   try simp only [thenS, inBlockS, ↓reduceIte, Nat.reduceEqDiff]
   apply AW.region
   iterate 3 refine AL.z ?_
   apply AL.nil
   try simp only [nd]
   refine ⟨_, ?_, ⟨k + 1, L, by omega, hR.next (fun h => ?_) (fun _ => trivial), rfl⟩, ?_⟩
   ·exact Less.a0
   ·intro y hy hj
    have hyn : y < n := by rw [hR.1] at hy; exact hy
    rcases hj with hj | ⟨z, h1, h2⟩
    ·exact (h y zT15).1 hj
    have hzn : z < n := by have := (List.getElem?_eq_some_iff.1 h1).1; rw [hR.1] at this; exact this
    exact (h z zT15).2 h1 y h2
   simp [S.nat, fnd]; omega
  skip
  apply AW.seq
  apply AW.sr
  iterate 3 refine AL.z ?_
  apply AL.nil
  try simp only [nd]
  refine AW.condF rfl ?_
  refine AW.exit ?_
  try simp only [thenS, inBlockS, ↓reduceIte, Nat.reduceEqDiff]
  apply AW.seq
  have hL := hR.done zT15 hin
  refine AW.freeze 6 1 (L.map fun b => [.p (.bool b)]) rfl rfl rfl (by rw [List.length_map, hR.1]) zT15 (rows1 rfl) ?_
  apply AW.region
  iterate 3 refine AL.z ?_
  apply AL.nil
  try simp only [nd]
  apply AW.ret
  exact ⟨[_, _], ⟨rfl, rfl, trivial⟩, .inr ⟨h0, by rw [h0, hA, ← hL]; rfl⟩, by simp [tupOf, V.pure, V.has, V.hasL]⟩
 obtain ⟨st, sts⟩ := m
 obtain ⟨e, he⟩ : ∃ e, machE ⟨st, sts⟩ = e := ⟨_, rfl⟩
 rw [he] at h0 ⊢
 refine Fn.intro (n := 67) ⟨Tryz.func86, rfl, rfl, rfl, rfl⟩ zT8 zT16 fun w0 out => ?_
 apply AW.sr
 refine AL.sm rfl (sm_box 1 rfl rfl rfl rfl rfl) ?_
 iterate 2 refine AL.z ?_
 apply AL.nil
 try simp only [nd, setL, V.cs, nz, Nat.reduceAdd, nm, ns, enum]
 apply AW.sr
 refine AL.z ?_
 refine AL.call (post := ?pc3) rfl (sm_call (args := [_]) ?hc3 ⟨Tryz.func30, rfl, rfl, rfl, rfl⟩ rfl rfl rfl rfl) ?_
 case hc3 => exact Fn.eqi (am_Fault ⟨st, sts⟩) he
 rintro _ rfl -
 try dsimp only
 refine AL.z ?_
 apply AL.nil
 try simp only [nd, setL, V.cs, nz, Nat.reduceAdd, nm, ns]
 apply AW.seq
 apply AW.sr
 iterate 2 refine AL.z ?_
 apply AL.nil
 try simp only [nd]
 refine AW.condT rfl ?_
 apply AW.sr
 iterate 3 refine AL.z ?_
 apply AL.nil
 try simp only [nd]
 apply AW.ret
 exact ⟨[_, _], ⟨rfl, rfl, trivial⟩, .inl ⟨h0, rfl⟩, by simp [tupOf, V.pure, V.has, V.hasL]⟩
theorem aheadL_wk (m : Mach) (v : V) (h : (machE m ≠ 0 ∧ v = .tup [.nil, .i (machE m)]) ∨ (machE m = 0 ∧ v = .tup [.d (boolsD (aheadL m)), .i (machE m)])) (_ : v.pure) : ∃ v', v' = .tup [.d (boolsD (aheadL m)), .i (machE m)] ∧ v'.pure ∧ WkR v' v := by
 refine ⟨_, rfl, by simp [V.pure, V.has, V.hasL], ?_⟩
 rcases h with ⟨h0, rfl⟩ | ⟨h0, rfl⟩
 ·have : aheadL m = [] := by unfold aheadL; rw [if_neg h0]
  rw [this]
  exact WkR.nil1 1 1 _
 exact .one (.refl _)
theorem am_AheadOf (m : Mach) : Fn Tryz.prog 86 [mV m] (fun v => v = .tup [.d (boolsD (aheadL m)), .i (machE m)]) := (am_AheadOf0 m).wk (aheadL_wk m)
/-- The place of a number in a list; -1: none. -/
def pl : List Nat → Int → Int
  | [], _ => -1
  | y :: l, x => if (y : Int) = x then 0 else if pl l x < 0 then -1 else pl l x + 1
theorem pl_none : ∀ (l : List Nat) (x : Int), (∀ y ∈ l, (y : Int) ≠ x) → pl l x = -1
  | [], x, h => rfl
  | y :: l, x, h => by
    rw [pl, if_neg (h y zT16), pl_none l x fun z hz => h z (by simp [hz])]
    rfl
theorem pl_some : ∀ (l : List Nat) (x : Int) (i : Nat) (y : Nat), l[i]? = some y → (y : Int) = x → (∀ j z, j < i → l[j]? = some z → (z : Int) ≠ x) → pl l x = i
  | [], x, i, y, h, _, _ => by simp at h
  | z :: l, x, 0, y, h, e, _ => by simp at h; subst h; rw [pl, if_pos e]; rfl
  | z :: l, x, i + 1, y, h, e, hn => by
    have h1 := pl_some l x i y (by simpa using h) e fun j u hj hu => hn (j + 1) u zT15 (by simpa using hu)
    rw [pl, if_neg (hn 0 z zT15 zT16), h1, if_neg zT15]
    omega
/-- In a list that grows: by how many are kept below. -/
theorem pl_filter {K : Nat → Bool} {n q : Nat} (hq : q < n) : pl ((List.range n).filter K) q = if K q then (((List.range q).filter K).length : Int) else -1 := by
  split
  · rename_i h
    obtain ⟨m, rfl⟩ : ∃ m, n = q + (m + 1) := ⟨n - q - 1, by omega⟩
    have e : (List.range (q + (m + 1))).filter K = (List.range q).filter K ++ q :: ((List.range m).map (q + 1 + ·)).filter K := by
      rw [List.range_add, List.filter_append, List.range_succ_eq_map]
      simp only [List.map_cons, List.map_map, Nat.add_zero, List.filter_cons, h, if_true]
      congr 2
      congr 1
      congr 1
      funext i
      simp
      omega
    refine pl_some _ _ _ q ?_ rfl fun j z hj hz => ?_
    · rw [e, List.getElem?_append_right (Nat.le_refl _)]; simp
    rw [e, List.getElem?_append_left hj] at hz
    have := List.mem_filter.1 (List.mem_of_getElem? hz)
    have := List.mem_range.1 this.1
    omega
  rename_i h
  refine pl_none _ _ fun y hy => ?_
  have := (List.mem_filter.1 hy).2
  intro e
  have : y = q := by omega
  subst this
  contradiction
theorem pl_neg (l : List Nat) {x : Int} (hx : x < 0) : pl l x = -1 := pl_none l x fun y _ => by omega
noncomputable def tKeep (m : Mach) (q : Nat) : Bool := (aheadL m).getD q false && (backL m).getD q false
noncomputable def tKept (m : Mach) : List Nat := (List.range m.states.length).filter (tKeep m)
def tArc (kept : List Nat) (a : Ar) : Option Ar := if 0 ≤ pl kept a.t then some ⟨a.i, a.o, a.w, pl kept a.t⟩ else none
def tState (kept : List Nat) (s : St) : St := ⟨s.fin, s.arcs.filterMap (tArc kept)⟩
noncomputable def trimM (m : Mach) : Mach := if machE m = 0 then ⟨pl (tKept m) m.start, (tKept m).map fun q => tState (tKept m) (m.states.getD q ⟨0, []⟩)⟩ else ⟨0, []⟩
theorem filterMap_snoc {α β : Type} {l : List α} {k : Nat} {x : α} (f : α → Option β) (h : l[k]? = some x) : (l.take (k + 1)).filterMap f = (l.take k).filterMap f ++ (f x).toList := by
  rw [List.take_add_one, h]
  simp only [List.filterMap_append, List.filterMap_cons, List.filterMap_nil, Option.toList]
  cases f x <;> rfl
theorem filter_range_succ (K : Nat → Bool) (k : Nat) : (List.range (k + 1)).filter K = (List.range k).filter K ++ if K k then [k] else [] := by
  rw [List.range_succ, List.filter_append]
  cases h : K k <;> simp [h]
theorem filter_range_len (K : Nat → Bool) (k : Nat) : ((List.range k).filter K).length ≤ k := by
  have := List.length_filter_le K (List.range k)
  simpa using this
end Go.Proofs.YthiknkcigcglkaaGreatDoor
