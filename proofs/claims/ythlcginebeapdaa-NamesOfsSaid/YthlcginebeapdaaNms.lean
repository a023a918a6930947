/- Tables of names, told plainly: what is wrong with them, and what is found in them. -/
import Derived.Test.YthlcginebeapdaaAmMp2
namespace Go.Proofs.Ythlcginebeapdaa
open Go.RowKit
set_option linter.unusedSimpArgs false
set_option linter.unusedVariables false
set_option maxRecDepth 100000

structure Nm where
  t : ByteArray
  b : Int
deriving DecidableEq
instance : Inhabited Nm := ⟨⟨⟨#[]⟩, 0⟩⟩
def nmD (x : Nm) : List D := [.p (.string x.t), .p (.int .i64 x.b)]
def nmsD (l : List Nm) : D := .sl 2 24 (l.map nmD)

def chLet (b : UInt8) : Prop := (97 ≤ b.toNat ∧ b.toNat ≤ 122) ∨ b.toNat = 95
def chDig (b : UInt8) : Prop := 48 ≤ b.toNat ∧ b.toNat ≤ 57
def nmP (l : List UInt8) : Prop := 1 ≤ l.length ∧ l.length ≤ 12 ∧ ∀ (k : Nat) (b : UInt8), l[k]? = some b → chLet b ∨ (chDig b ∧ 0 < k)
open Classical in
noncomputable def nmB (l : List UInt8) : Bool := decide (nmP l)
theorem nmB_true {l : List UInt8} (h : nmP l) : nmB l = true := by simp [nmB, h]
theorem nmB_false {l : List UInt8} (h : ¬ nmP l) : nmB l = false := by simp [nmB, h]

def dupP (l : List Nm) (n : Nat) : Prop := ∃ (i j : Nat) (x y : Nm), j < i ∧ i < n ∧ l[i]? = some x ∧ l[j]? = some y ∧ (x.t = y.t ∨ x.b = y.b)
def labP (l : List Nm) (n : Nat) : Prop := ∀ (i : Nat) (x : Nm), i < n → l[i]? = some x → 1 ≤ x.b ∧ x.b ≤ 1000
def txtP (l : List Nm) (n : Nat) : Prop := ∀ (i : Nat) (x : Nm), i < n → l[i]? = some x → nmB x.t.data.toList = true
open Classical in
noncomputable def nmF (l : List Nm) : Int := if 100 < l.length then 1 else if ¬ labP l l.length then 2 else if ¬ txtP l l.length then 9 else if dupP l l.length then 10 else 0
theorem nmF_size {l : List Nm} (h : 100 < l.length) : nmF l = 1 := by unfold nmF; rw [if_pos h]
theorem nmF_lab {l : List Nm} (h : ¬ 100 < l.length) (h1 : ¬ labP l l.length) : nmF l = 2 := by unfold nmF; rw [if_neg h, if_pos h1]
theorem nmF_txt {l : List Nm} (h : ¬ 100 < l.length) (h1 : labP l l.length) (h2 : ¬ txtP l l.length) : nmF l = 9 := by unfold nmF; rw [if_neg h, if_neg (not_not_intro h1), if_pos h2]
theorem nmF_dup {l : List Nm} (h : ¬ 100 < l.length) (h1 : labP l l.length) (h2 : txtP l l.length) (h3 : dupP l l.length) : nmF l = 10 := by unfold nmF; rw [if_neg h, if_neg (not_not_intro h1), if_neg (not_not_intro h2), if_pos h3]
theorem nmF_ok {l : List Nm} (h : ¬ 100 < l.length) (h1 : labP l l.length) (h2 : txtP l l.length) (h3 : ¬ dupP l l.length) : nmF l = 0 := by unfold nmF; rw [if_neg h, if_neg (not_not_intro h1), if_neg (not_not_intro h2), if_neg h3]
theorem nmF_0 {l : List Nm} (h : nmF l = 0) : ¬ 100 < l.length ∧ labP l l.length ∧ txtP l l.length ∧ ¬ dupP l l.length := by
  unfold nmF at h
  split at h
  · omega
  split at h
  · omega
  split at h
  · omega
  split at h
  · omega
  rename_i h1 h2 h3 h4
  exact ⟨h1, Classical.not_not.1 h2, Classical.not_not.1 h3, h4⟩
theorem labP_snoc {l : List Nm} {k : Nat} {x : Nm} (h : labP l k) (hx : l[k]? = some x) (h1 : 1 ≤ x.b ∧ x.b ≤ 1000) : labP l (k + 1) := by
  intro i y hi hy
  by_cases e : i = k
  · subst e
    rw [hx] at hy
    cases hy
    exact h1
  · exact h i y (by omega) hy
theorem txtP_snoc {l : List Nm} {k : Nat} {x : Nm} (h : txtP l k) (hx : l[k]? = some x) (h1 : nmB x.t.data.toList = true) : txtP l (k + 1) := by
  intro i y hi hy
  by_cases e : i = k
  · subst e
    rw [hx] at hy
    cases hy
    exact h1
  · exact h i y (by omega) hy
theorem labP_not {l : List Nm} {k : Nat} {x : Nm} (hx : l[k]? = some x) (h1 : ¬ (1 ≤ x.b ∧ x.b ≤ 1000)) : ¬ labP l l.length := fun h => h1 (h k x (List.getElem?_eq_some_iff.1 hx).1 hx)
theorem txtP_not {l : List Nm} {k : Nat} {x : Nm} (hx : l[k]? = some x) (h1 : nmB x.t.data.toList = false) : ¬ txtP l l.length := fun h => by rw [h k x (List.getElem?_eq_some_iff.1 hx).1 hx] at h1; cases h1
theorem dupP_snoc {l : List Nm} {k : Nat} {x : Nm} (h : ¬ dupP l k) (hx : l[k]? = some x) (h1 : ∀ (j : Nat) (y : Nm), j < k → l[j]? = some y → x.t ≠ y.t ∧ x.b ≠ y.b) : ¬ dupP l (k + 1) := by
  rintro ⟨i, j, u, v, h2, h3, h4, h5, h6⟩
  by_cases e : i = k
  · subst e
    rw [hx] at h4
    cases h4
    have := h1 j v h2 h5
    rcases h6 with h6 | h6
    · exact this.1 h6
    · exact this.2 h6
  · exact h ⟨i, j, u, v, h2, by omega, h4, h5, h6⟩
theorem dupP_get {l : List Nm} {i j : Nat} {x y : Nm} (hji : j < i) (hx : l[i]? = some x) (hy : l[j]? = some y) (h : x.t = y.t ∨ x.b = y.b) : dupP l l.length := ⟨i, j, x, y, hji, (List.getElem?_eq_some_iff.1 hx).1, hx, hy, h⟩

section
variable {K : Type} [DecidableEq K]
theorem mget_mput (a : K) (v : Int) (b : K) : ∀ l : List (K × Int), mget (mput l a v) b = if b = a then some v else mget l b
  | [] => by simp [mput, mfind, mget_cons, mget]
  | (k, u) :: l => by
    have ih := mget_mput a v b l
    by_cases e : a = k
    · subst e
      have h0 : mput ((a, u) :: l) a v = (a, v) :: l := by simp [mput, mfind]
      rw [h0, mget_cons, mget_cons]
      split <;> rfl
    · have h0 : mput ((k, u) :: l) a v = (k, u) :: mput l a v := by
        unfold mput
        simp only [mfind, if_neg e]
        rw [mfind_shift]
        cases h : mfind l a 0 with
        | none => simp
        | some p => simp
      rw [h0, mget_cons, mget_cons, ih]
      by_cases e2 : b = k
      · rw [if_pos e2, if_pos e2, if_neg (fun h => e (h.symm.trans e2))]
      · rw [if_neg e2, if_neg e2]
theorem mput_len (a : K) (v : Int) (l : List (K × Int)) : (mput l a v).length = if mget l a = none then l.length + 1 else l.length := by
  unfold mput mget
  cases h : mfind l a 0 with
  | none => simp
  | some p => simp

/-- The index of a table: each key stands for the last place where it is found. -/
def bldM (f : Nm → K) (l : List Nm) : Nat → List (K × Int)
  | 0 => []
  | n + 1 => match l[n]? with
    | some x => mput (bldM f l n) (f x) n
    | none => bldM f l n
theorem bldM_snoc {f : Nm → K} {l : List Nm} {k : Nat} {x : Nm} (hx : l[k]? = some x) : bldM f l (k + 1) = mput (bldM f l k) (f x) k := by simp only [bldM, hx]
theorem bldM_some {f : Nm → K} {l : List Nm} {a : K} {v : Int} : ∀ n, mget (bldM f l n) a = some v → ∃ (j : Nat) (x : Nm), j < n ∧ v = j ∧ l[j]? = some x ∧ f x = a
  | 0, h => by simp [bldM, mget, mfind] at h
  | n + 1, h => by
    cases hx : l[n]? with
    | none =>
      simp only [bldM, hx] at h
      obtain ⟨j, x, h1, h2⟩ := bldM_some n h
      exact ⟨j, x, by omega, h2⟩
    | some x =>
      rw [bldM_snoc hx, mget_mput] at h
      split at h
      · rename_i e
        simp only [Option.some.injEq] at h
        exact ⟨n, x, by omega, h.symm, hx, e.symm⟩
      · obtain ⟨j, x, h1, h2⟩ := bldM_some n h
        exact ⟨j, x, by omega, h2⟩
theorem bldM_none {f : Nm → K} {l : List Nm} {a : K} : ∀ n, mget (bldM f l n) a = none → ∀ (j : Nat) (x : Nm), j < n → l[j]? = some x → f x ≠ a
  | 0, _, j, x, hj, _ => by omega
  | n + 1, h, j, x, hj, hx => by
    cases hy : l[n]? with
    | none =>
      simp only [bldM, hy] at h
      by_cases e : j = n
      · subst e; rw [hx] at hy; cases hy
      · exact bldM_none n h j x (by omega) hx
    | some y =>
      rw [bldM_snoc hy, mget_mput] at h
      split at h
      · cases h
      · rename_i e
        by_cases e2 : j = n
        · subst e2
          rw [hx] at hy
          cases hy
          exact fun h => e h.symm
        · exact bldM_none n h j x (by omega) hx
/-- The index is as long as the table if no key stands there twice, else shorter. -/
theorem bldM_len {f : Nm → K} {l : List Nm} : ∀ n, n ≤ l.length → (bldM f l n).length ≤ n ∧ ((bldM f l n).length = n ↔ ∀ (i j : Nat) (x y : Nm), j < i → i < n → l[i]? = some x → l[j]? = some y → f x ≠ f y)
  | 0, _ => ⟨by simp [bldM], by simp [bldM]⟩
  | n + 1, hn => by
    obtain ⟨h1, h2⟩ := bldM_len (f := f) (l := l) n (by omega)
    obtain ⟨x, hx⟩ : ∃ x, l[n]? = some x := ⟨_, List.getElem?_eq_getElem (by omega)⟩
    rw [bldM_snoc hx, mput_len]
    cases hg : mget (bldM f l n) (f x) with
    | none =>
      rw [if_pos rfl]
      refine ⟨by omega, ?_⟩
      have hno := bldM_none n hg
      constructor
      · intro h i j u v hji hi hu hv
        by_cases e : i = n
        · subst e
          rw [hx] at hu
          cases hu
          exact Ne.symm (hno j v hji hv)
        · exact h2.1 (by omega) i j u v hji (by omega) hu hv
      · intro h
        have := h2.2 fun i j u v hji hi hu hv => h i j u v hji (by omega) hu hv
        omega
    | some v =>
      rw [if_neg (by simp)]
      refine ⟨by omega, ?_⟩
      obtain ⟨j, y, hj, _, hy, he⟩ := bldM_some n hg
      constructor
      · intro h; omega
      · intro h
        exact absurd he.symm (h n j x y hj (by omega) hx hy)
end
theorem nms_dup {l : List Nm} : ((bldM Nm.t l l.length).length < l.length ∨ (bldM Nm.b l l.length).length < l.length) ↔ dupP l l.length := by
  obtain ⟨h1, h2⟩ := bldM_len (f := Nm.t) (l := l) l.length (Nat.le_refl _)
  obtain ⟨h3, h4⟩ := bldM_len (f := Nm.b) (l := l) l.length (Nat.le_refl _)
  constructor
  · intro h
    refine Classical.byContradiction fun hd => ?_
    have e1 := h2.2 fun i j x y hji hi hx hy e => hd ⟨i, j, x, y, hji, hi, hx, hy, .inl e⟩
    have e2 := h4.2 fun i j x y hji hi hx hy e => hd ⟨i, j, x, y, hji, hi, hx, hy, .inr e⟩
    omega
  · rintro ⟨i, j, x, y, hji, hi, hx, hy, he⟩
    refine Classical.byContradiction fun hd => ?_
    have e1 := h2.1 (by omega) i j x y hji hi hx hy
    have e2 := h4.1 (by omega) i j x y hji hi hx hy
    rcases he with he | he
    · exact e1 he
    · exact e2 he

open Classical in
/-- Where a text, or a label, stands in a table. -/
noncomputable def fndL (l : List Nm) (t : ByteArray) : Int × Int := if h : ∃ (j : Nat) (x : Nm), l[j]? = some x ∧ x.t = t then (h.choose_spec.choose.b, 0) else (0, 12)
open Classical in
noncomputable def fndT (l : List Nm) (b : Int) : ByteArray × Int := if h : ∃ (j : Nat) (x : Nm), l[j]? = some x ∧ x.b = b then (h.choose_spec.choose.t, 0) else (⟨#[]⟩, 12)
theorem nodup_eq {l : List Nm} (hd : ¬ dupP l l.length) {i j : Nat} {x y : Nm} (hx : l[i]? = some x) (hy : l[j]? = some y) (he : x.t = y.t ∨ x.b = y.b) : x = y := by
  rcases Nat.lt_trichotomy i j with h | h | h
  · exact absurd (dupP_get h hy hx (he.imp Eq.symm Eq.symm)) hd
  · subst h; rw [hx] at hy; cases hy; rfl
  · exact absurd (dupP_get h hx hy he) hd
theorem fndL_some {l : List Nm} (hd : ¬ dupP l l.length) {j : Nat} {x : Nm} (hx : l[j]? = some x) : fndL l x.t = (x.b, 0) := by
  have h : ∃ (j : Nat) (y : Nm), l[j]? = some y ∧ y.t = x.t := ⟨j, x, hx, rfl⟩
  unfold fndL
  rw [dif_pos h]
  have h1 := h.choose_spec.choose_spec
  rw [nodup_eq hd h1.1 hx (.inl h1.2)]
theorem fndL_none {l : List Nm} {t : ByteArray} (h : ∀ (j : Nat) (x : Nm), j < l.length → l[j]? = some x → x.t ≠ t) : fndL l t = (0, 12) := by
  unfold fndL
  rw [dif_neg]
  rintro ⟨j, x, h1, h2⟩
  exact h j x (List.getElem?_eq_some_iff.1 h1).1 h1 h2
theorem fndT_some {l : List Nm} (hd : ¬ dupP l l.length) {j : Nat} {x : Nm} (hx : l[j]? = some x) : fndT l x.b = (x.t, 0) := by
  have h : ∃ (j : Nat) (y : Nm), l[j]? = some y ∧ y.b = x.b := ⟨j, x, hx, rfl⟩
  unfold fndT
  rw [dif_pos h]
  have h1 := h.choose_spec.choose_spec
  rw [nodup_eq hd h1.1 hx (.inr h1.2)]
theorem fndT_none {l : List Nm} {b : Int} (h : ∀ (j : Nat) (x : Nm), j < l.length → l[j]? = some x → x.b ≠ b) : fndT l b = (⟨#[]⟩, 12) := by
  unfold fndT
  rw [dif_neg]
  rintro ⟨j, x, h1, h2⟩
  exact h j x (List.getElem?_eq_some_iff.1 h1).1 h1 h2
theorem mpsR_nms (l : List Nm) : D.mpsR (l.map nmD) = false := mpsR_map _ (fun _ => rfl) l
theorem upB_nms (y : Bool) (r r' : Nat) (m : List (Value × Value)) (l : List Nm) : upB y r r' m (.d (nmsD l)) = .d (nmsD l) := upB_sl y r r' m 2 24 _ (mpsR_nms l)
theorem idx_t (l : List Nm) (k : Nat) : smap (bldM Nm.t l 0) = [] := rfl
/-- What names.Find and names.Of answer. -/
noncomputable def findR (l : List Nm) (t : ByteArray) : Int × Int := if nmF l = 0 then fndL l t else (0, nmF l)
noncomputable def ofR (l : List Nm) (b : Int) : ByteArray × Int := if nmF l = 0 then fndT l b else (⟨#[]⟩, nmF l)
end Go.Proofs.Ythlcginebeapdaa
