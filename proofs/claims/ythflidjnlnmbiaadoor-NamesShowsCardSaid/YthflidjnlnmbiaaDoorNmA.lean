/- NmA: several texts in one. -/
import Derived.Test.YthflidjnlnmbiaaDoorAmMp2
import Derived.Test.YthflidjnlnmbiaaDoorOnce
import Derived.Test.YthflidjnlnmbiaaDoorAmT
import Derived.Test.YthflidjnlnmbiaaDoorAmTree
import Derived.Test.YthflidjnlnmbiaaDoorAmChr
import Derived.Laws.RangeString
import Derived.Laws.RangeAny
import Derived.LoopTactic
namespace Go.Proofs.YthflidjnlnmbiaaDoor
open Go.RowKit
set_option linter.unusedSimpArgs false
set_option linter.unusedVariables false
set_option maxRecDepth 100000

structure Nm where
  t : ByteArray
  b : Int
deriving DecidableEq
instance : Inhabited Nm := ⟨⟨⟨#[]⟩, 0⟩⟩
def nmD (x : Nm) : List D := [.p (.string x.t), .p (.int .i64 x.b)]
def nmsD (l : List Nm) : D := .sl 2 24 (l.map nmD)

def chLet (b : UInt8) : Prop := (97 ≤ b.toNat ∧ b.toNat ≤ 122) ∨ b.toNat = 95
def chDig (b : UInt8) : Prop := 48 ≤ b.toNat ∧ b.toNat ≤ 57
def nmP (l : List UInt8) : Prop := 1 ≤ l.length ∧ l.length ≤ 12 ∧ ∀ (k : Nat) (b : UInt8), l[k]? = some b → chLet b ∨ (chDig b ∧ 0 < k)
open Classical in
noncomputable def nmB (l : List UInt8) : Bool := decide (nmP l)
theorem nmB_true {l : List UInt8} (h : nmP l) : nmB l = true := by simp [nmB, h]
theorem nmB_false {l : List UInt8} (h : ¬ nmP l) : nmB l = false := by simp [nmB, h]

def dupP (l : List Nm) (n : Nat) : Prop := ∃ (i j : Nat) (x y : Nm), j < i ∧ i < n ∧ l[i]? = some x ∧ l[j]? = some y ∧ (x.t = y.t ∨ x.b = y.b)
def labP (l : List Nm) (n : Nat) : Prop := ∀ (i : Nat) (x : Nm), i < n → l[i]? = some x → 1 ≤ x.b ∧ x.b ≤ 1000
def txtP (l : List Nm) (n : Nat) : Prop := ∀ (i : Nat) (x : Nm), i < n → l[i]? = some x → nmB x.t.data.toList = true
open Classical in
noncomputable def nmF (l : List Nm) : Int := if 100 < l.length then 1 else if ¬ labP l l.length then 2 else if ¬ txtP l l.length then 9 else if dupP l l.length then 10 else 0
theorem nmF_size {l : List Nm} (h : 100 < l.length) : nmF l = 1 := by unfold nmF; rw [if_pos h]
theorem nmF_lab {l : List Nm} (h : ¬ 100 < l.length) (h1 : ¬ labP l l.length) : nmF l = 2 := by unfold nmF; rw [if_neg h, if_pos h1]
theorem nmF_txt {l : List Nm} (h : ¬ 100 < l.length) (h1 : labP l l.length) (h2 : ¬ txtP l l.length) : nmF l = 9 := by unfold nmF; rw [if_neg h, if_neg (not_not_intro h1), if_pos h2]
theorem nmF_dup {l : List Nm} (h : ¬ 100 < l.length) (h1 : labP l l.length) (h2 : txtP l l.length) (h3 : dupP l l.length) : nmF l = 10 := by unfold nmF; rw [if_neg h, if_neg (not_not_intro h1), if_neg (not_not_intro h2), if_pos h3]
theorem nmF_ok {l : List Nm} (h : ¬ 100 < l.length) (h1 : labP l l.length) (h2 : txtP l l.length) (h3 : ¬ dupP l l.length) : nmF l = 0 := by unfold nmF; rw [if_neg h, if_neg (not_not_intro h1), if_neg (not_not_intro h2), if_neg h3]
theorem nmF_0 {l : List Nm} (h : nmF l = 0) : ¬ 100 < l.length ∧ labP l l.length ∧ txtP l l.length ∧ ¬ dupP l l.length := by
  unfold nmF at h
  split at h
  · omega
  split at h
  · omega
  split at h
  · omega
  split at h
  · omega
  rename_i h1 h2 h3 h4
  exact ⟨h1, Classical.not_not.1 h2, Classical.not_not.1 h3, h4⟩
theorem labP_snoc {l : List Nm} {k : Nat} {x : Nm} (h : labP l k) (hx : l[k]? = some x) (h1 : 1 ≤ x.b ∧ x.b ≤ 1000) : labP l (k + 1) := by
  intro i y hi hy
  by_cases e : i = k
  · subst e
    rw [hx] at hy
    cases hy
    exact h1
  · exact h i y (by omega) hy
theorem txtP_snoc {l : List Nm} {k : Nat} {x : Nm} (h : txtP l k) (hx : l[k]? = some x) (h1 : nmB x.t.data.toList = true) : txtP l (k + 1) := by
  intro i y hi hy
  by_cases e : i = k
  · subst e
    rw [hx] at hy
    cases hy
    exact h1
  · exact h i y (by omega) hy
theorem labP_not {l : List Nm} {k : Nat} {x : Nm} (hx : l[k]? = some x) (h1 : ¬ (1 ≤ x.b ∧ x.b ≤ 1000)) : ¬ labP l l.length := fun h => h1 (h k x (List.getElem?_eq_some_iff.1 hx).1 hx)
theorem txtP_not {l : List Nm} {k : Nat} {x : Nm} (hx : l[k]? = some x) (h1 : nmB x.t.data.toList = false) : ¬ txtP l l.length := fun h => by rw [h k x (List.getElem?_eq_some_iff.1 hx).1 hx] at h1; cases h1
theorem dupP_snoc {l : List Nm} {k : Nat} {x : Nm} (h : ¬ dupP l k) (hx : l[k]? = some x) (h1 : ∀ (j : Nat) (y : Nm), j < k → l[j]? = some y → x.t ≠ y.t ∧ x.b ≠ y.b) : ¬ dupP l (k + 1) := by
  rintro ⟨i, j, u, v, h2, h3, h4, h5, h6⟩
  by_cases e : i = k
  · subst e
    rw [hx] at h4
    cases h4
    have := h1 j v h2 h5
    rcases h6 with h6 | h6
    · exact this.1 h6
    · exact this.2 h6
  · exact h ⟨i, j, u, v, h2, by omega, h4, h5, h6⟩
theorem dupP_get {l : List Nm} {i j : Nat} {x y : Nm} (hji : j < i) (hx : l[i]? = some x) (hy : l[j]? = some y) (h : x.t = y.t ∨ x.b = y.b) : dupP l l.length := ⟨i, j, x, y, hji, (List.getElem?_eq_some_iff.1 hx).1, hx, hy, h⟩

section
variable {K : Type} [DecidableEq K]
theorem mget_mput (a : K) (v : Int) (b : K) : ∀ l : List (K × Int), mget (mput l a v) b = if b = a then some v else mget l b
  | [] => by simp [mput, mfind, mget_cons, mget]
  | (k, u) :: l => by
    have ih := mget_mput a v b l
    by_cases e : a = k
    · subst e
      have h0 : mput ((a, u) :: l) a v = (a, v) :: l := by simp [mput, mfind]
      rw [h0, mget_cons, mget_cons]
      split <;> rfl
    · have h0 : mput ((k, u) :: l) a v = (k, u) :: mput l a v := by
        unfold mput
        simp only [mfind, if_neg e]
        rw [mfind_shift]
        cases h : mfind l a 0 with
        | none => simp
        | some p => simp
      rw [h0, mget_cons, mget_cons, ih]
      by_cases e2 : b = k
      · rw [if_pos e2, if_pos e2, if_neg (fun h => e (h.symm.trans e2))]
      · rw [if_neg e2, if_neg e2]
theorem mput_len (a : K) (v : Int) (l : List (K × Int)) : (mput l a v).length = if mget l a = none then l.length + 1 else l.length := by
  unfold mput mget
  cases h : mfind l a 0 with
  | none => simp
  | some p => simp

/-- The index of a table: each key stands for the last place where it is found. -/
def bldM (f : Nm → K) (l : List Nm) : Nat → List (K × Int)
  | 0 => []
  | n + 1 => match l[n]? with
    | some x => mput (bldM f l n) (f x) n
    | none => bldM f l n
theorem bldM_snoc {f : Nm → K} {l : List Nm} {k : Nat} {x : Nm} (hx : l[k]? = some x) : bldM f l (k + 1) = mput (bldM f l k) (f x) k := by simp only [bldM, hx]
theorem bldM_some {f : Nm → K} {l : List Nm} {a : K} {v : Int} : ∀ n, mget (bldM f l n) a = some v → ∃ (j : Nat) (x : Nm), j < n ∧ v = j ∧ l[j]? = some x ∧ f x = a
  | 0, h => by simp [bldM, mget, mfind] at h
  | n + 1, h => by
    cases hx : l[n]? with
    | none =>
      simp only [bldM, hx] at h
      obtain ⟨j, x, h1, h2⟩ := bldM_some n h
      exact ⟨j, x, by omega, h2⟩
    | some x =>
      rw [bldM_snoc hx, mget_mput] at h
      split at h
      · rename_i e
        simp only [Option.some.injEq] at h
        exact ⟨n, x, by omega, h.symm, hx, e.symm⟩
      · obtain ⟨j, x, h1, h2⟩ := bldM_some n h
        exact ⟨j, x, by omega, h2⟩
theorem bldM_none {f : Nm → K} {l : List Nm} {a : K} : ∀ n, mget (bldM f l n) a = none → ∀ (j : Nat) (x : Nm), j < n → l[j]? = some x → f x ≠ a
  | 0, _, j, x, hj, _ => by omega
  | n + 1, h, j, x, hj, hx => by
    cases hy : l[n]? with
    | none =>
      simp only [bldM, hy] at h
      by_cases e : j = n
      · subst e; rw [hx] at hy; cases hy
      · exact bldM_none n h j x (by omega) hx
    | some y =>
      rw [bldM_snoc hy, mget_mput] at h
      split at h
      · cases h
      · rename_i e
        by_cases e2 : j = n
        · subst e2
          rw [hx] at hy
          cases hy
          exact fun h => e h.symm
        · exact bldM_none n h j x (by omega) hx
/-- The index is as long as the table if no key stands there twice, else shorter. -/
theorem bldM_len {f : Nm → K} {l : List Nm} : ∀ n, n ≤ l.length → (bldM f l n).length ≤ n ∧ ((bldM f l n).length = n ↔ ∀ (i j : Nat) (x y : Nm), j < i → i < n → l[i]? = some x → l[j]? = some y → f x ≠ f y)
  | 0, _ => ⟨by simp [bldM], by simp [bldM]⟩
  | n + 1, hn => by
    obtain ⟨h1, h2⟩ := bldM_len (f := f) (l := l) n (by omega)
    obtain ⟨x, hx⟩ : ∃ x, l[n]? = some x := ⟨_, List.getElem?_eq_getElem (by omega)⟩
    rw [bldM_snoc hx, mput_len]
    cases hg : mget (bldM f l n) (f x) with
    | none =>
      rw [if_pos rfl]
      refine ⟨by omega, ?_⟩
      have hno := bldM_none n hg
      constructor
      · intro h i j u v hji hi hu hv
        by_cases e : i = n
        · subst e
          rw [hx] at hu
          cases hu
          exact Ne.symm (hno j v hji hv)
        · exact h2.1 (by omega) i j u v hji (by omega) hu hv
      · intro h
        have := h2.2 fun i j u v hji hi hu hv => h i j u v hji (by omega) hu hv
        omega
    | some v =>
      rw [if_neg (by simp)]
      refine ⟨by omega, ?_⟩
      obtain ⟨j, y, hj, _, hy, he⟩ := bldM_some n hg
      constructor
      · intro h; omega
      · intro h
        exact absurd he.symm (h n j x y hj (by omega) hx hy)
end
theorem nms_dup {l : List Nm} : ((bldM Nm.t l l.length).length < l.length ∨ (bldM Nm.b l l.length).length < l.length) ↔ dupP l l.length := by
  obtain ⟨h1, h2⟩ := bldM_len (f := Nm.t) (l := l) l.length (Nat.le_refl _)
  obtain ⟨h3, h4⟩ := bldM_len (f := Nm.b) (l := l) l.length (Nat.le_refl _)
  constructor
  · intro h
    refine Classical.byContradiction fun hd => ?_
    have e1 := h2.2 fun i j x y hji hi hx hy e => hd ⟨i, j, x, y, hji, hi, hx, hy, .inl e⟩
    have e2 := h4.2 fun i j x y hji hi hx hy e => hd ⟨i, j, x, y, hji, hi, hx, hy, .inr e⟩
    omega
  · rintro ⟨i, j, x, y, hji, hi, hx, hy, he⟩
    refine Classical.byContradiction fun hd => ?_
    have e1 := h2.1 (by omega) i j x y hji hi hx hy
    have e2 := h4.1 (by omega) i j x y hji hi hx hy
    rcases he with he | he
    · exact e1 he
    · exact e2 he

open Classical in
/-- Where a text, or a label, stands in a table. -/
noncomputable def fndL (l : List Nm) (t : ByteArray) : Int × Int := if h : ∃ (j : Nat) (x : Nm), l[j]? = some x ∧ x.t = t then (h.choose_spec.choose.b, 0) else (0, 12)
open Classical in
noncomputable def fndT (l : List Nm) (b : Int) : ByteArray × Int := if h : ∃ (j : Nat) (x : Nm), l[j]? = some x ∧ x.b = b then (h.choose_spec.choose.t, 0) else (⟨#[]⟩, 12)
theorem nodup_eq {l : List Nm} (hd : ¬ dupP l l.length) {i j : Nat} {x y : Nm} (hx : l[i]? = some x) (hy : l[j]? = some y) (he : x.t = y.t ∨ x.b = y.b) : x = y := by
  rcases Nat.lt_trichotomy i j with h | h | h
  · exact absurd (dupP_get h hy hx (he.imp Eq.symm Eq.symm)) hd
  · subst h; rw [hx] at hy; cases hy; rfl
  · exact absurd (dupP_get h hx hy he) hd
theorem fndL_some {l : List Nm} (hd : ¬ dupP l l.length) {j : Nat} {x : Nm} (hx : l[j]? = some x) : fndL l x.t = (x.b, 0) := by
  have h : ∃ (j : Nat) (y : Nm), l[j]? = some y ∧ y.t = x.t := ⟨j, x, hx, rfl⟩
  unfold fndL
  rw [dif_pos h]
  have h1 := h.choose_spec.choose_spec
  rw [nodup_eq hd h1.1 hx (.inl h1.2)]
theorem fndL_none {l : List Nm} {t : ByteArray} (h : ∀ (j : Nat) (x : Nm), j < l.length → l[j]? = some x → x.t ≠ t) : fndL l t = (0, 12) := by
  unfold fndL
  rw [dif_neg]
  rintro ⟨j, x, h1, h2⟩
  exact h j x (List.getElem?_eq_some_iff.1 h1).1 h1 h2
theorem fndT_some {l : List Nm} (hd : ¬ dupP l l.length) {j : Nat} {x : Nm} (hx : l[j]? = some x) : fndT l x.b = (x.t, 0) := by
  have h : ∃ (j : Nat) (y : Nm), l[j]? = some y ∧ y.b = x.b := ⟨j, x, hx, rfl⟩
  unfold fndT
  rw [dif_pos h]
  have h1 := h.choose_spec.choose_spec
  rw [nodup_eq hd h1.1 hx (.inr h1.2)]
theorem fndT_none {l : List Nm} {b : Int} (h : ∀ (j : Nat) (x : Nm), j < l.length → l[j]? = some x → x.b ≠ b) : fndT l b = (⟨#[]⟩, 12) := by
  unfold fndT
  rw [dif_neg]
  rintro ⟨j, x, h1, h2⟩
  exact h j x (List.getElem?_eq_some_iff.1 h1).1 h1 h2
theorem mpsR_nms (l : List Nm) : D.mpsR (l.map nmD) = false := mpsR_map _ (fun _ => rfl) l
theorem upB_nms (y : Bool) (r r' : Nat) (m : List (Value × Value)) (l : List Nm) : upB y r r' m (.d (nmsD l)) = .d (nmsD l) := upB_sl y r r' m 2 24 _ (mpsR_nms l)
theorem idx_t (l : List Nm) (k : Nat) : smap (bldM Nm.t l 0) = [] := rfl
/-- What names.Find and names.Of answer. -/
noncomputable def findR (l : List Nm) (t : ByteArray) : Int × Int := if nmF l = 0 then fndL l t else (0, nmF l)
noncomputable def ofR (l : List Nm) (b : Int) : ByteArray × Int := if nmF l = 0 then fndT l b else (⟨#[]⟩, nmF l)
end Go.Proofs.YthflidjnlnmbiaaDoor

namespace Go.Proofs.YthflidjnlnmbiaaDoor
open Go.RowKit
set_option linter.unusedSimpArgs false
set_option linter.unusedVariables false
set_option maxRecDepth 100000

theorem hasL_vd (r : Nat) (l : List D) : V.hasL r (l.map V.d) = false := by simp [V.hasL_false, V.has]
theorem hasL_vdt (r n : Nat) (l : List D) : V.hasL r ((l.map V.d).take n) = false := by
 rw [V.hasL_false]
 intro v hv
 obtain ⟨d, _, rfl⟩ := List.mem_map.1 (List.mem_of_mem_take hv)
 rfl
/-- A function that works on the objects H, keeping K, entered with arguments ars. -/
def EN (P : Program) (f : FuncId) (ars : List V) (H : List (Nat × Row)) (K : List V) (post : Nat → V → List (Nat × Row) → List V → Prop) : Prop :=
 ∃ fn code n rs, Is P f fn code n rs ∧ ars.length ≤ n ∧ ∀ w0 out kx, AW ⟨P, w0, out, kx⟩ code (QP P rs (post w0.heap.size)) ⟨n, enum 0 ars, H, K⟩
theorem EN.intro {P : Program} {f : FuncId} {fn : Func} {code : Code} {n : Nat} {rs : List ResultVar} {ars : List V} {H : List (Nat × Row)} {K : List V} {post : Nat → V → List (Nat × Row) → List V → Prop} (hf : Is P f fn code n rs) (hn : ars.length ≤ n)
  (h : ∀ w0 out kx, AW ⟨P, w0, out, kx⟩ code (QP P rs (post w0.heap.size)) ⟨n, enum 0 ars, H, K⟩) : EN P f ars H K post := ⟨_, _, _, _, hf, hn, h⟩
theorem EN.calls {c : Cx} {g : Nat → Nat × Nat} {s : S} {a : Act} {w : World} {f : FuncId} {ars ks : List V} {xs kvs : List Value} {post : Nat → V → List (Nat × Row) → List V → Prop} (h : EN c.P f ars s.H (ks ++ s.K) post) (hs : Sim c g s a w) (hx : VReps w (qt c s.H g) g ars xs) (hk : VReps w (qt c s.H g) g ks kvs) :
  Calls c.P f xs.toArray w fun e w' => ∃ v x g1 s1 a1, e = .returned x ∧ Sim ⟨c.P, c.w0, c.out, kvs ++ c.kx⟩ g1 s1 a1 w' ∧ VRep w' (qt c s1.H g1) g1 v x ∧ post c.w0.heap.size v s1.H s1.K := by
 obtain ⟨fn, code, n, rs, hf, hn, h⟩ := h
 obtain ⟨harl, harg⟩ := hx
 obtain ⟨hkl, hkk⟩ := hk
 have hsim : Sim ⟨c.P, c.w0, c.out, kvs ++ c.kx⟩ g ⟨n, enum 0 ars, s.H, ks ++ s.K⟩ { tmps := xs.toArray ++ Array.replicate (fn.ntmps - xs.toArray.size) undef, defers := [] } w := by
  refine ⟨?_, rfl, ?_, hs.nul, hs.obj, ?_, hs.inj, hs.base, hs.low, hs.below⟩
  ·simp [hf.ntmps]; omega
  ·intro i v hv
   obtain ⟨_, h2⟩ := fnd_enum _ 0 i v hv
   simp only [Nat.sub_zero] at h2
   have hi : i < xs.length := by
    have := (List.getElem?_eq_some_iff.1 h2).1
    omega
   refine ⟨xs[i], ?_, ?_⟩
   ·rw [hf.ntmps]
    exact enter_get (List.getElem?_eq_getElem hi) (by omega)
   ·exact harg i v _ h2 (List.getElem?_eq_getElem hi)
  ·intro j v x h1 h2
   by_cases hj : j < ks.length
   ·rw [List.getElem?_append_left hj] at h1
    rw [List.getElem?_append_left (by omega)] at h2
    exact hkk j v x h1 h2
   ·rw [List.getElem?_append_right (by omega)] at h1
    rw [List.getElem?_append_right (by omega)] at h2
    exact hs.keep (j - ks.length) v x h1 (by rw [hkl]; exact h2)
 refine calls_of_wp hf.func hf.body (wp_mono (h c.w0 c.out (kvs ++ c.kx) g _ w hsim) fun e a1 w1 hq => ?_)
 obtain ⟨g1, s1, h1, h2⟩ := hq
 have fin : (∃ vs, resL c.P s1 rs vs ∧ post c.w0.heap.size (tupOf vs) s1.H s1.K) →
   a1.defers = [] ∧ ∃ v, (results fn a1.tmps).run c.P w1 = .ok v w1 ∧ ∃ v' x g1 s1 a1, Ending.returned v = .returned x ∧ Sim ⟨c.P, c.w0, c.out, kvs ++ c.kx⟩ g1 s1 a1 w1 ∧ VRep w1 (qt c s1.H g1) g1 v' x ∧ post c.w0.heap.size v' s1.H s1.K := by
  rintro ⟨vs, k1, k2⟩
  obtain ⟨x, k3, k4⟩ := run_results (c := ⟨c.P, c.w0, c.out, kvs ++ c.kx⟩) hf.results h2 k1
  exact ⟨h2.defers, x, k4, _, x, g1, s1, a1, rfl, h2, k3, k2⟩
 cases e with
 | normal => exact fin h1
 | ret => exact fin h1
 | _ => exact h1.elim

theorem Sim.setCell1 {c : Cx} {g : Nat → Nat × Nat} {s : S} {a : Act} {w : World} (hs : Sim c g s a w) {r k : Nat} {row : Row} {v : V} {x : Value} (hr : fnd s.H r = some row) (hn : row.nil = false) (hk : k < row.cells.length) (hv : VRep w (qt c s.H g) g v x) :
  Sim c g { s with H := (r, { row with cells := row.cells.set k v }) :: s.H } a (w.setCell ⟨(g r).1, k, none⟩ x) := by
 obtain ⟨arr, h1, hz, h2⟩ := hs.obj r row hr hn
 have hlen : k < arr.size := by
  obtain ⟨y, hy, _⟩ := h2 k _ (List.getElem?_eq_getElem hk)
  exact (Array.getElem?_eq_some_iff.1 hy).1
 refine Sim.setRow hs (row' := { row with cells := row.cells.set k v }) (arr' := arr.setIfInBounds k x) hr hn rfl hn rfl (heap_setCell_same _ _ _ _ _ _ h1) (fun b hb => heap_setCell_other _ _ _ _ hb) (by simp [World.setCell]) rfl rfl rfl ?_ ?_
 ·intro arr0 ty h0
  rw [h1] at h0
  simp only [Option.some.injEq, Obj.cells.injEq, and_true] at h0
  obtain ⟨rfl, _⟩ := h0
  simp
 ·intro j u hu
  simp only [List.getElem?_set] at hu
  split at hu
  ·rename_i e
   subst e
   simp only [hk, if_true, Option.some.injEq] at hu
   subst hu
   exact ⟨x, by simp [hlen], hv⟩
  ·rename_i e
   obtain ⟨y, h3, h4⟩ := h2 j u hu
   exact ⟨y, by rw [Array.getElem?_setIfInBounds_ne e]; exact h3, h4⟩

/-- An index, in memory: what stands in the Once's two numbers, and the two maps. -/
def idxR (l : List Nm) (d m : Int) (a b : V) : Row := ⟨91, [.d (nmsD l), .d (.p (.int .u32 d)), .d (.p (.int .i32 m)), .d (.p (.int .u32 0)), a, b], false, 0⟩
def xH (l : List Nm) (d m : Int) (a b : V) : List (Nat × Row) := [(801, ⟨75, [.ref 800 0], false, 0⟩), (800, idxR l d m a b)]
def nomap : V := .d (.p (.map none))
theorem en_made1 (l : List Nm) (hb : l.length * 24 ≤ 140737488355328) (ks : List D) (hks : V.mpsL (ks.map V.d) = false) :
  EN Tryd.prog 69 [.ref 801 0] (xH l 0 1 nomap nomap) (.ref 800 0 :: .ref 801 0 :: ks.map V.d) (fun N v H' K' => v = .tup [] ∧ K' = .ref 800 0 :: .ref 801 0 :: ks.map V.d ∧ H' = xH l 0 1 (.mp2 false 810 811 N (smap (bldM Nm.t l l.length)) (imap (bldM Nm.b l l.length))) (.mp2 true 810 811 N (smap (bldM Nm.t l l.length)) (imap (bldM Nm.b l l.length)))) := by
 obtain ⟨len, hl⟩ : ∃ n, l.length = n := ⟨_, rfl⟩
 rw [hl] at hb ⊢
 refine EN.intro (n := 36) ⟨Tryd.func69, rfl, rfl, rfl, rfl⟩ (by simp) fun w0 out kx => ?_
 unfold xH idxR nomap nmsD
 simp only [enum]
 refine AW.seq ?_
 refine AW.drawT (N := ?N1) (l := #[false, false, false, false, false, false, false, false, false, false]) 10 (by kernel_rfl) rfl rfl ?_ ?_
 rotate_left
 refine AN.br4 (i := 0) (j := 1) (k := 2) (k2 := 3) (by kernel_rfl) ?_ ?_ ?_ ?_
 ·refine BR.mk (l' := #[true, false, false, false, false, false, false, false, false, false]) rfl rfl rfl ?_
  (first | (refine ST.rd rfl (rd_load_ref Tryd.underlying75 rfl rfl rfl rfl rfl rfl) ?_) | (refine ST.rd rfl (rd_load_ad Tryd.underlying75 rfl rfl rfl rfl) ?_) | (refine ST.rd rfl (rd_load_map Tryd.underlying75 rfl rfl rfl rfl rfl rfl (by assumption)) ?_) | (refine ST.rd rfl (rd_load_flat Tryd.underlying75 rfl rfl rfl rfl rfl rfl (fun _ => rfl) (by assumption) rfl) ?_))
  refine AN.br3 (i := 1) (j := 2) (k := 3) (by kernel_rfl) ?_ ?_ ?_
  ·refine BR.mk (l' := #[true, true, false, false, false, false, false, false, false, false]) rfl rfl rfl ?_
   (first | (refine ST.rd rfl (rd_load_ref Tryd.underlying75 rfl rfl rfl rfl rfl rfl) ?_) | (refine ST.rd rfl (rd_load_ad Tryd.underlying75 rfl rfl rfl rfl) ?_) | (refine ST.rd rfl (rd_load_map Tryd.underlying75 rfl rfl rfl rfl rfl rfl (by assumption)) ?_) | (refine ST.rd rfl (rd_load_flat Tryd.underlying75 rfl rfl rfl rfl rfl rfl (fun _ => rfl) (by assumption) rfl) ?_))
   refine AN.br2 (i := 2) (j := 3) (by kernel_rfl) ?_ ?_
   ·refine BR.mk (l' := #[true, true, true, false, false, false, false, false, false, false]) rfl rfl rfl ?_
    (first | (refine ST.sm (sm_makeMap2 true 6 810 811 rfl (by first | rfl | simp [S.clean, S.put, S.newObj, S.forget, V.has, V.hasL, junkIf, setL, V.cs, hasL_i, hasL_vd, hasL_vdt, hasL_d, hasL_b, hasL_s, hasL_n, hasL_rep, hasL_flat, hasL_append, -List.map_set]) rfl rfl rfl) ?_) | (refine ST.sm (sm_makeMap 810 rfl (by first | rfl | simp [S.clean, S.put, S.newObj, S.forget, V.has, V.hasL, junkIf, setL, V.cs, hasL_i, hasL_vd, hasL_vdt, hasL_d, hasL_b, hasL_s, hasL_n, hasL_rep, hasL_flat, hasL_append, -List.map_set]) rfl) ?_))
    try simp only [S.put, List.map_cons, List.map_nil, rowMap, to2_d, to2_ref, to2_own, to2_junk, to2_F, to2_T, List.getElem_toArray, List.getElem_cons_zero, List.getElem_cons_succ, List.set_cons_zero, List.set_cons_succ, Bool.not_true, Bool.not_false, if_true, if_false, Bool.false_eq_true, ↓reduceIte]
    (first | (refine AN.rp (i := 4) (l' := #[true, true, true, false, true, false, false, false, false, false]) rfl rfl rfl (fun _ _ h => h) (by kernel_rfl) rfl (rp_nilCheck rfl rfl) ?_) | (refine AN.rp (i := 4) (l' := #[true, true, true, false, true, false, false, false, false, false]) rfl rfl rfl (fun _ _ h => h) (by kernel_rfl) rfl (rp_nilCheck_ad rfl rfl) ?_))
    (first | (refine AN.rp (i := 5) (l' := #[true, true, true, false, true, true, false, false, false, false]) rfl rfl rfl (fun _ _ h => h) (by kernel_rfl) rfl (rp_field_ref Tryd.underlying91 rfl rfl rfl inf88 (by decide) rfl) ?_) | (refine AN.rp (i := 5) (l' := #[true, true, true, false, true, true, false, false, false, false]) rfl rfl rfl (fun _ _ h => h) (by kernel_rfl) rfl (rp_field_ad Tryd.underlying91 rfl rfl rfl inf88 (by decide) rfl) ?_))
    refine AN.br2 (i := 3) (j := 6) (by kernel_rfl) ?_ ?_
    ·refine BR.mk (l' := #[true, true, true, true, true, true, false, false, false, false]) rfl rfl rfl ?_
     (first | (refine ST.sm (sm_makeMap2 false 5 810 811 rfl (by first | rfl | simp [S.clean, S.put, S.newObj, S.forget, V.has, V.hasL, junkIf, setL, V.cs, hasL_i, hasL_vd, hasL_vdt, hasL_d, hasL_b, hasL_s, hasL_n, hasL_rep, hasL_flat, hasL_append, -List.map_set]) rfl rfl rfl) ?_) | (refine ST.sm (sm_makeMap 811 rfl (by first | rfl | simp [S.clean, S.put, S.newObj, S.forget, V.has, V.hasL, junkIf, setL, V.cs, hasL_i, hasL_vd, hasL_vdt, hasL_d, hasL_b, hasL_s, hasL_n, hasL_rep, hasL_flat, hasL_append, -List.map_set]) rfl) ?_))
     try simp only [S.put, List.map_cons, List.map_nil, rowMap, to2_d, to2_ref, to2_own, to2_junk, to2_F, to2_T, List.getElem_toArray, List.getElem_cons_zero, List.getElem_cons_succ, List.set_cons_zero, List.set_cons_succ, Bool.not_true, Bool.not_false, if_true, if_false, Bool.false_eq_true, ↓reduceIte]
     refine AN.br1 (i := 6) (by kernel_rfl) ?_
     refine BR.mk (l' := #[true, true, true, true, true, true, true, false, false, false]) rfl rfl rfl ?_
     (first | (refine ST.st (st_store_map2 inf88 rfl rfl rfl rfl rfl rfl rfl rfl (by first | assumption | omega)) ?_) | (refine ST.st (st_store inf88 rfl rfl rfl rfl rfl rfl rfl (by first | decide | (simp; done)) rfl) ?_))
     (first | (refine AN.rp (i := 7) (l' := #[true, true, true, true, true, true, true, true, false, false]) rfl rfl rfl (fun _ _ h => h) (by kernel_rfl) rfl (rp_nilCheck rfl rfl) ?_) | (refine AN.rp (i := 7) (l' := #[true, true, true, true, true, true, true, true, false, false]) rfl rfl rfl (fun _ _ h => h) (by kernel_rfl) rfl (rp_nilCheck_ad rfl rfl) ?_))
     (first | (refine AN.rp (i := 8) (l' := #[true, true, true, true, true, true, true, true, true, false]) rfl rfl rfl (fun _ _ h => h) (by kernel_rfl) rfl (rp_field_ref Tryd.underlying91 rfl rfl rfl inf89 (by decide) rfl) ?_) | (refine AN.rp (i := 8) (l' := #[true, true, true, true, true, true, true, true, true, false]) rfl rfl rfl (fun _ _ h => h) (by kernel_rfl) rfl (rp_field_ad Tryd.underlying91 rfl rfl rfl inf89 (by decide) rfl) ?_))
     refine AN.br1 (i := 9) (by kernel_rfl) ?_
     refine BR.mk (l' := #[true, true, true, true, true, true, true, true, true, true]) rfl rfl rfl ?_
     (first | (refine ST.st (st_store_map2 inf89 rfl rfl rfl rfl rfl rfl rfl rfl (by first | assumption | omega)) ?_) | (refine ST.st (st_store inf89 rfl rfl rfl rfl rfl rfl rfl (by first | decide | (simp; done)) rfl) ?_))
     refine AN.nil (by kernel_rfl) ?_
     show Less _ _
     exact Less.dd _
    ·refine BR.mk (l' := #[true, true, true, false, true, true, true, false, false, false]) rfl rfl rfl ?_
     (first | (refine ST.st (st_store_map2 inf88 rfl rfl rfl rfl rfl rfl rfl rfl (by first | assumption | omega)) ?_) | (refine ST.st (st_store inf88 rfl rfl rfl rfl rfl rfl rfl (by first | decide | (simp; done)) rfl) ?_))
     refine AN.br1 (i := 3) (by kernel_rfl) ?_
     refine BR.mk (l' := #[true, true, true, true, true, true, true, false, false, false]) rfl rfl rfl ?_
     (first | (refine ST.sm (sm_makeMap2 false 5 810 811 rfl (by first | rfl | simp [S.clean, S.put, S.newObj, S.forget, V.has, V.hasL, junkIf, setL, V.cs, hasL_i, hasL_vd, hasL_vdt, hasL_d, hasL_b, hasL_s, hasL_n, hasL_rep, hasL_flat, hasL_append, -List.map_set]) rfl rfl rfl) ?_) | (refine ST.sm (sm_makeMap 811 rfl (by first | rfl | simp [S.clean, S.put, S.newObj, S.forget, V.has, V.hasL, junkIf, setL, V.cs, hasL_i, hasL_vd, hasL_vdt, hasL_d, hasL_b, hasL_s, hasL_n, hasL_rep, hasL_flat, hasL_append, -List.map_set]) rfl) ?_))
     try simp only [S.put, List.map_cons, List.map_nil, rowMap, to2_d, to2_ref, to2_own, to2_junk, to2_F, to2_T, List.getElem_toArray, List.getElem_cons_zero, List.getElem_cons_succ, List.set_cons_zero, List.set_cons_succ, Bool.not_true, Bool.not_false, if_true, if_false, Bool.false_eq_true, ↓reduceIte]
     (first | (refine AN.rp (i := 7) (l' := #[true, true, true, true, true, true, true, true, false, false]) rfl rfl rfl (fun _ _ h => h) (by kernel_rfl) rfl (rp_nilCheck rfl rfl) ?_) | (refine AN.rp (i := 7) (l' := #[true, true, true, true, true, true, true, true, false, false]) rfl rfl rfl (fun _ _ h => h) (by kernel_rfl) rfl (rp_nilCheck_ad rfl rfl) ?_))
     (first | (refine AN.rp (i := 8) (l' := #[true, true, true, true, true, true, true, true, true, false]) rfl rfl rfl (fun _ _ h => h) (by kernel_rfl) rfl (rp_field_ref Tryd.underlying91 rfl rfl rfl inf89 (by decide) rfl) ?_) | (refine AN.rp (i := 8) (l' := #[true, true, true, true, true, true, true, true, true, false]) rfl rfl rfl (fun _ _ h => h) (by kernel_rfl) rfl (rp_field_ad Tryd.underlying91 rfl rfl rfl inf89 (by decide) rfl) ?_))
     refine AN.br1 (i := 9) (by kernel_rfl) ?_
     refine BR.mk (l' := #[true, true, true, true, true, true, true, true, true, true]) rfl rfl rfl ?_
     (first | (refine ST.st (st_store_map2 inf89 rfl rfl rfl rfl rfl rfl rfl rfl (by first | assumption | omega)) ?_) | (refine ST.st (st_store inf89 rfl rfl rfl rfl rfl rfl rfl (by first | decide | (simp; done)) rfl) ?_))
     refine AN.nil (by kernel_rfl) ?_
     show Less _ _
     (try simp only [S.put, S.newObj, setL, V.cs, List.length_cons, List.length_nil, List.take_succ_cons, List.take_zero, List.drop_succ_cons, List.drop_zero, List.drop_nil, List.nil_append, List.cons_append, List.append_nil, Nat.zero_add, Nat.reduceAdd, List.map_cons, List.map_nil, List.set_cons_zero, List.set_cons_succ])
     try simp only [S.dd, ddL, List.contains_cons, List.contains_nil, Nat.reduceBEq, beq_self_eq_true, Bool.or_false, Bool.or_true, Bool.false_or, Bool.true_or, Bool.or_self, if_true, if_false, Bool.false_eq_true, ↓reduceIte]
     exact (Less.of rfl (by repeat (first | exact trivial | refine ⟨⟨_, rfl, Wk.refl _⟩, ?_⟩)) (by repeat (first | exact trivial | refine ⟨rfl, ?_⟩)) rfl)
   ·refine BR.mk (l' := #[true, true, false, true, false, false, false, false, false, false]) rfl rfl rfl ?_
    (first | (refine ST.sm (sm_makeMap2 false 5 810 811 rfl (by first | rfl | simp [S.clean, S.put, S.newObj, S.forget, V.has, V.hasL, junkIf, setL, V.cs, hasL_i, hasL_vd, hasL_vdt, hasL_d, hasL_b, hasL_s, hasL_n, hasL_rep, hasL_flat, hasL_append, -List.map_set]) rfl rfl rfl) ?_) | (refine ST.sm (sm_makeMap 811 rfl (by first | rfl | simp [S.clean, S.put, S.newObj, S.forget, V.has, V.hasL, junkIf, setL, V.cs, hasL_i, hasL_vd, hasL_vdt, hasL_d, hasL_b, hasL_s, hasL_n, hasL_rep, hasL_flat, hasL_append, -List.map_set]) rfl) ?_))
    try simp only [S.put, List.map_cons, List.map_nil, rowMap, to2_d, to2_ref, to2_own, to2_junk, to2_F, to2_T, List.getElem_toArray, List.getElem_cons_zero, List.getElem_cons_succ, List.set_cons_zero, List.set_cons_succ, Bool.not_true, Bool.not_false, if_true, if_false, Bool.false_eq_true, ↓reduceIte]
    refine AN.br1 (i := 2) (by kernel_rfl) ?_
    refine BR.mk (l' := #[true, true, true, true, false, false, false, false, false, false]) rfl rfl rfl ?_
    (first | (refine ST.sm (sm_makeMap2 true 6 810 811 rfl (by first | rfl | simp [S.clean, S.put, S.newObj, S.forget, V.has, V.hasL, junkIf, setL, V.cs, hasL_i, hasL_vd, hasL_vdt, hasL_d, hasL_b, hasL_s, hasL_n, hasL_rep, hasL_flat, hasL_append, -List.map_set]) rfl rfl rfl) ?_) | (refine ST.sm (sm_makeMap 810 rfl (by first | rfl | simp [S.clean, S.put, S.newObj, S.forget, V.has, V.hasL, junkIf, setL, V.cs, hasL_i, hasL_vd, hasL_vdt, hasL_d, hasL_b, hasL_s, hasL_n, hasL_rep, hasL_flat, hasL_append, -List.map_set]) rfl) ?_))
    try simp only [S.put, List.map_cons, List.map_nil, rowMap, to2_d, to2_ref, to2_own, to2_junk, to2_F, to2_T, List.getElem_toArray, List.getElem_cons_zero, List.getElem_cons_succ, List.set_cons_zero, List.set_cons_succ, Bool.not_true, Bool.not_false, if_true, if_false, Bool.false_eq_true, ↓reduceIte]
    (first | (refine AN.rp (i := 4) (l' := #[true, true, true, true, true, false, false, false, false, false]) rfl rfl rfl (fun _ _ h => h) (by kernel_rfl) rfl (rp_nilCheck rfl rfl) ?_) | (refine AN.rp (i := 4) (l' := #[true, true, true, true, true, false, false, false, false, false]) rfl rfl rfl (fun _ _ h => h) (by kernel_rfl) rfl (rp_nilCheck_ad rfl rfl) ?_))
    (first | (refine AN.rp (i := 5) (l' := #[true, true, true, true, true, true, false, false, false, false]) rfl rfl rfl (fun _ _ h => h) (by kernel_rfl) rfl (rp_field_ref Tryd.underlying91 rfl rfl rfl inf88 (by decide) rfl) ?_) | (refine AN.rp (i := 5) (l' := #[true, true, true, true, true, true, false, false, false, false]) rfl rfl rfl (fun _ _ h => h) (by kernel_rfl) rfl (rp_field_ad Tryd.underlying91 rfl rfl rfl inf88 (by decide) rfl) ?_))
    refine AN.br1 (i := 6) (by kernel_rfl) ?_
    refine BR.mk (l' := #[true, true, true, true, true, true, true, false, false, false]) rfl rfl rfl ?_
    (first | (refine ST.st (st_store_map2 inf88 rfl rfl rfl rfl rfl rfl rfl rfl (by first | assumption | omega)) ?_) | (refine ST.st (st_store inf88 rfl rfl rfl rfl rfl rfl rfl (by first | decide | (simp; done)) rfl) ?_))
    (first | (refine AN.rp (i := 7) (l' := #[true, true, true, true, true, true, true, true, false, false]) rfl rfl rfl (fun _ _ h => h) (by kernel_rfl) rfl (rp_nilCheck rfl rfl) ?_) | (refine AN.rp (i := 7) (l' := #[true, true, true, true, true, true, true, true, false, false]) rfl rfl rfl (fun _ _ h => h) (by kernel_rfl) rfl (rp_nilCheck_ad rfl rfl) ?_))
    (first | (refine AN.rp (i := 8) (l' := #[true, true, true, true, true, true, true, true, true, false]) rfl rfl rfl (fun _ _ h => h) (by kernel_rfl) rfl (rp_field_ref Tryd.underlying91 rfl rfl rfl inf89 (by decide) rfl) ?_) | (refine AN.rp (i := 8) (l' := #[true, true, true, true, true, true, true, true, true, false]) rfl rfl rfl (fun _ _ h => h) (by kernel_rfl) rfl (rp_field_ad Tryd.underlying91 rfl rfl rfl inf89 (by decide) rfl) ?_))
    refine AN.br1 (i := 9) (by kernel_rfl) ?_
    refine BR.mk (l' := #[true, true, true, true, true, true, true, true, true, true]) rfl rfl rfl ?_
    (first | (refine ST.st (st_store_map2 inf89 rfl rfl rfl rfl rfl rfl rfl rfl (by first | assumption | omega)) ?_) | (refine ST.st (st_store inf89 rfl rfl rfl rfl rfl rfl rfl (by first | decide | (simp; done)) rfl) ?_))
    refine AN.nil (by kernel_rfl) ?_
    show Less _ _
    (try simp only [S.put, S.newObj, setL, V.cs, List.length_cons, List.length_nil, List.take_succ_cons, List.take_zero, List.drop_succ_cons, List.drop_zero, List.drop_nil, List.nil_append, List.cons_append, List.append_nil, Nat.zero_add, Nat.reduceAdd, List.map_cons, List.map_nil, List.set_cons_zero, List.set_cons_succ])
    try simp only [S.dd, ddL, List.contains_cons, List.contains_nil, Nat.reduceBEq, beq_self_eq_true, Bool.or_false, Bool.or_true, Bool.false_or, Bool.true_or, Bool.or_self, if_true, if_false, Bool.false_eq_true, ↓reduceIte]
    exact (Less.of rfl (by repeat (first | exact trivial | refine ⟨⟨_, rfl, Wk.refl _⟩, ?_⟩)) (by repeat (first | exact trivial | refine ⟨rfl, ?_⟩)) rfl)
  ·refine BR.mk (l' := #[true, false, true, false, false, false, false, false, false, false]) rfl rfl rfl ?_
   (first | (refine ST.sm (sm_makeMap2 true 6 810 811 rfl (by first | rfl | simp [S.clean, S.put, S.newObj, S.forget, V.has, V.hasL, junkIf, setL, V.cs, hasL_i, hasL_vd, hasL_vdt, hasL_d, hasL_b, hasL_s, hasL_n, hasL_rep, hasL_flat, hasL_append, -List.map_set]) rfl rfl rfl) ?_) | (refine ST.sm (sm_makeMap 810 rfl (by first | rfl | simp [S.clean, S.put, S.newObj, S.forget, V.has, V.hasL, junkIf, setL, V.cs, hasL_i, hasL_vd, hasL_vdt, hasL_d, hasL_b, hasL_s, hasL_n, hasL_rep, hasL_flat, hasL_append, -List.map_set]) rfl) ?_))
   try simp only [S.put, List.map_cons, List.map_nil, rowMap, to2_d, to2_ref, to2_own, to2_junk, to2_F, to2_T, List.getElem_toArray, List.getElem_cons_zero, List.getElem_cons_succ, List.set_cons_zero, List.set_cons_succ, Bool.not_true, Bool.not_false, if_true, if_false, Bool.false_eq_true, ↓reduceIte]
   (first | (refine AN.rp (i := 4) (l' := #[true, false, true, false, true, false, false, false, false, false]) rfl rfl rfl (fun _ _ h => h) (by kernel_rfl) rfl (rp_nilCheck rfl rfl) ?_) | (refine AN.rp (i := 4) (l' := #[true, false, true, false, true, false, false, false, false, false]) rfl rfl rfl (fun _ _ h => h) (by kernel_rfl) rfl (rp_nilCheck_ad rfl rfl) ?_))
   (first | (refine AN.rp (i := 5) (l' := #[true, false, true, false, true, true, false, false, false, false]) rfl rfl rfl (fun _ _ h => h) (by kernel_rfl) rfl (rp_field_ref Tryd.underlying91 rfl rfl rfl inf88 (by decide) rfl) ?_) | (refine AN.rp (i := 5) (l' := #[true, false, true, false, true, true, false, false, false, false]) rfl rfl rfl (fun _ _ h => h) (by kernel_rfl) rfl (rp_field_ad Tryd.underlying91 rfl rfl rfl inf88 (by decide) rfl) ?_))
   refine AN.br3 (i := 1) (j := 3) (k := 6) (by kernel_rfl) ?_ ?_ ?_
   ·refine BR.mk (l' := #[true, true, true, false, true, true, false, false, false, false]) rfl rfl rfl ?_
    (first | (refine ST.rd rfl (rd_load_ref Tryd.underlying75 rfl rfl rfl rfl rfl rfl) ?_) | (refine ST.rd rfl (rd_load_ad Tryd.underlying75 rfl rfl rfl rfl) ?_) | (refine ST.rd rfl (rd_load_map Tryd.underlying75 rfl rfl rfl rfl rfl rfl (by assumption)) ?_) | (refine ST.rd rfl (rd_load_flat Tryd.underlying75 rfl rfl rfl rfl rfl rfl (fun _ => rfl) (by assumption) rfl) ?_))
    refine AN.br2 (i := 3) (j := 6) (by kernel_rfl) ?_ ?_
    ·refine BR.mk (l' := #[true, true, true, true, true, true, false, false, false, false]) rfl rfl rfl ?_
     (first | (refine ST.sm (sm_makeMap2 false 5 810 811 rfl (by first | rfl | simp [S.clean, S.put, S.newObj, S.forget, V.has, V.hasL, junkIf, setL, V.cs, hasL_i, hasL_vd, hasL_vdt, hasL_d, hasL_b, hasL_s, hasL_n, hasL_rep, hasL_flat, hasL_append, -List.map_set]) rfl rfl rfl) ?_) | (refine ST.sm (sm_makeMap 811 rfl (by first | rfl | simp [S.clean, S.put, S.newObj, S.forget, V.has, V.hasL, junkIf, setL, V.cs, hasL_i, hasL_vd, hasL_vdt, hasL_d, hasL_b, hasL_s, hasL_n, hasL_rep, hasL_flat, hasL_append, -List.map_set]) rfl) ?_))
     try simp only [S.put, List.map_cons, List.map_nil, rowMap, to2_d, to2_ref, to2_own, to2_junk, to2_F, to2_T, List.getElem_toArray, List.getElem_cons_zero, List.getElem_cons_succ, List.set_cons_zero, List.set_cons_succ, Bool.not_true, Bool.not_false, if_true, if_false, Bool.false_eq_true, ↓reduceIte]
     refine AN.br1 (i := 6) (by kernel_rfl) ?_
     refine BR.mk (l' := #[true, true, true, true, true, true, true, false, false, false]) rfl rfl rfl ?_
     (first | (refine ST.st (st_store_map2 inf88 rfl rfl rfl rfl rfl rfl rfl rfl (by first | assumption | omega)) ?_) | (refine ST.st (st_store inf88 rfl rfl rfl rfl rfl rfl rfl (by first | decide | (simp; done)) rfl) ?_))
     (first | (refine AN.rp (i := 7) (l' := #[true, true, true, true, true, true, true, true, false, false]) rfl rfl rfl (fun _ _ h => h) (by kernel_rfl) rfl (rp_nilCheck rfl rfl) ?_) | (refine AN.rp (i := 7) (l' := #[true, true, true, true, true, true, true, true, false, false]) rfl rfl rfl (fun _ _ h => h) (by kernel_rfl) rfl (rp_nilCheck_ad rfl rfl) ?_))
     (first | (refine AN.rp (i := 8) (l' := #[true, true, true, true, true, true, true, true, true, false]) rfl rfl rfl (fun _ _ h => h) (by kernel_rfl) rfl (rp_field_ref Tryd.underlying91 rfl rfl rfl inf89 (by decide) rfl) ?_) | (refine AN.rp (i := 8) (l' := #[true, true, true, true, true, true, true, true, true, false]) rfl rfl rfl (fun _ _ h => h) (by kernel_rfl) rfl (rp_field_ad Tryd.underlying91 rfl rfl rfl inf89 (by decide) rfl) ?_))
     refine AN.br1 (i := 9) (by kernel_rfl) ?_
     refine BR.mk (l' := #[true, true, true, true, true, true, true, true, true, true]) rfl rfl rfl ?_
     (first | (refine ST.st (st_store_map2 inf89 rfl rfl rfl rfl rfl rfl rfl rfl (by first | assumption | omega)) ?_) | (refine ST.st (st_store inf89 rfl rfl rfl rfl rfl rfl rfl (by first | decide | (simp; done)) rfl) ?_))
     refine AN.nil (by kernel_rfl) ?_
     show Less _ _
     (try simp only [S.put, S.newObj, setL, V.cs, List.length_cons, List.length_nil, List.take_succ_cons, List.take_zero, List.drop_succ_cons, List.drop_zero, List.drop_nil, List.nil_append, List.cons_append, List.append_nil, Nat.zero_add, Nat.reduceAdd, List.map_cons, List.map_nil, List.set_cons_zero, List.set_cons_succ])
     try simp only [S.dd, ddL, List.contains_cons, List.contains_nil, Nat.reduceBEq, beq_self_eq_true, Bool.or_false, Bool.or_true, Bool.false_or, Bool.true_or, Bool.or_self, if_true, if_false, Bool.false_eq_true, ↓reduceIte]
     exact (Less.of rfl (by repeat (first | exact trivial | refine ⟨⟨_, rfl, Wk.refl _⟩, ?_⟩)) (by repeat (first | exact trivial | refine ⟨rfl, ?_⟩)) rfl)
    ·refine BR.mk (l' := #[true, true, true, false, true, true, true, false, false, false]) rfl rfl rfl ?_
     (first | (refine ST.st (st_store_map2 inf88 rfl rfl rfl rfl rfl rfl rfl rfl (by first | assumption | omega)) ?_) | (refine ST.st (st_store inf88 rfl rfl rfl rfl rfl rfl rfl (by first | decide | (simp; done)) rfl) ?_))
     refine AN.br1 (i := 3) (by kernel_rfl) ?_
     refine BR.mk (l' := #[true, true, true, true, true, true, true, false, false, false]) rfl rfl rfl ?_
     (first | (refine ST.sm (sm_makeMap2 false 5 810 811 rfl (by first | rfl | simp [S.clean, S.put, S.newObj, S.forget, V.has, V.hasL, junkIf, setL, V.cs, hasL_i, hasL_vd, hasL_vdt, hasL_d, hasL_b, hasL_s, hasL_n, hasL_rep, hasL_flat, hasL_append, -List.map_set]) rfl rfl rfl) ?_) | (refine ST.sm (sm_makeMap 811 rfl (by first | rfl | simp [S.clean, S.put, S.newObj, S.forget, V.has, V.hasL, junkIf, setL, V.cs, hasL_i, hasL_vd, hasL_vdt, hasL_d, hasL_b, hasL_s, hasL_n, hasL_rep, hasL_flat, hasL_append, -List.map_set]) rfl) ?_))
     try simp only [S.put, List.map_cons, List.map_nil, rowMap, to2_d, to2_ref, to2_own, to2_junk, to2_F, to2_T, List.getElem_toArray, List.getElem_cons_zero, List.getElem_cons_succ, List.set_cons_zero, List.set_cons_succ, Bool.not_true, Bool.not_false, if_true, if_false, Bool.false_eq_true, ↓reduceIte]
     (first | (refine AN.rp (i := 7) (l' := #[true, true, true, true, true, true, true, true, false, false]) rfl rfl rfl (fun _ _ h => h) (by kernel_rfl) rfl (rp_nilCheck rfl rfl) ?_) | (refine AN.rp (i := 7) (l' := #[true, true, true, true, true, true, true, true, false, false]) rfl rfl rfl (fun _ _ h => h) (by kernel_rfl) rfl (rp_nilCheck_ad rfl rfl) ?_))
     (first | (refine AN.rp (i := 8) (l' := #[true, true, true, true, true, true, true, true, true, false]) rfl rfl rfl (fun _ _ h => h) (by kernel_rfl) rfl (rp_field_ref Tryd.underlying91 rfl rfl rfl inf89 (by decide) rfl) ?_) | (refine AN.rp (i := 8) (l' := #[true, true, true, true, true, true, true, true, true, false]) rfl rfl rfl (fun _ _ h => h) (by kernel_rfl) rfl (rp_field_ad Tryd.underlying91 rfl rfl rfl inf89 (by decide) rfl) ?_))
     refine AN.br1 (i := 9) (by kernel_rfl) ?_
     refine BR.mk (l' := #[true, true, true, true, true, true, true, true, true, true]) rfl rfl rfl ?_
     (first | (refine ST.st (st_store_map2 inf89 rfl rfl rfl rfl rfl rfl rfl rfl (by first | assumption | omega)) ?_) | (refine ST.st (st_store inf89 rfl rfl rfl rfl rfl rfl rfl (by first | decide | (simp; done)) rfl) ?_))
     refine AN.nil (by kernel_rfl) ?_
     show Less _ _
     (try simp only [S.put, S.newObj, setL, V.cs, List.length_cons, List.length_nil, List.take_succ_cons, List.take_zero, List.drop_succ_cons, List.drop_zero, List.drop_nil, List.nil_append, List.cons_append, List.append_nil, Nat.zero_add, Nat.reduceAdd, List.map_cons, List.map_nil, List.set_cons_zero, List.set_cons_succ])
     try simp only [S.dd, ddL, List.contains_cons, List.contains_nil, Nat.reduceBEq, beq_self_eq_true, Bool.or_false, Bool.or_true, Bool.false_or, Bool.true_or, Bool.or_self, if_true, if_false, Bool.false_eq_true, ↓reduceIte]
     exact (Less.of rfl (by repeat (first | exact trivial | refine ⟨⟨_, rfl, Wk.refl _⟩, ?_⟩)) (by repeat (first | exact trivial | refine ⟨rfl, ?_⟩)) rfl)
   ·refine BR.mk (l' := #[true, false, true, true, true, true, false, false, false, false]) rfl rfl rfl ?_
    (first | (refine ST.sm (sm_makeMap2 false 5 810 811 rfl (by first | rfl | simp [S.clean, S.put, S.newObj, S.forget, V.has, V.hasL, junkIf, setL, V.cs, hasL_i, hasL_vd, hasL_vdt, hasL_d, hasL_b, hasL_s, hasL_n, hasL_rep, hasL_flat, hasL_append, -List.map_set]) rfl rfl rfl) ?_) | (refine ST.sm (sm_makeMap 811 rfl (by first | rfl | simp [S.clean, S.put, S.newObj, S.forget, V.has, V.hasL, junkIf, setL, V.cs, hasL_i, hasL_vd, hasL_vdt, hasL_d, hasL_b, hasL_s, hasL_n, hasL_rep, hasL_flat, hasL_append, -List.map_set]) rfl) ?_))
    try simp only [S.put, List.map_cons, List.map_nil, rowMap, to2_d, to2_ref, to2_own, to2_junk, to2_F, to2_T, List.getElem_toArray, List.getElem_cons_zero, List.getElem_cons_succ, List.set_cons_zero, List.set_cons_succ, Bool.not_true, Bool.not_false, if_true, if_false, Bool.false_eq_true, ↓reduceIte]
    refine AN.br2 (i := 1) (j := 6) (by kernel_rfl) ?_ ?_
    ·refine BR.mk (l' := #[true, true, true, true, true, true, false, false, false, false]) rfl rfl rfl ?_
     (first | (refine ST.rd rfl (rd_load_ref Tryd.underlying75 rfl rfl rfl rfl rfl rfl) ?_) | (refine ST.rd rfl (rd_load_ad Tryd.underlying75 rfl rfl rfl rfl) ?_) | (refine ST.rd rfl (rd_load_map Tryd.underlying75 rfl rfl rfl rfl rfl rfl (by assumption)) ?_) | (refine ST.rd rfl (rd_load_flat Tryd.underlying75 rfl rfl rfl rfl rfl rfl (fun _ => rfl) (by assumption) rfl) ?_))
     refine AN.br1 (i := 6) (by kernel_rfl) ?_
     refine BR.mk (l' := #[true, true, true, true, true, true, true, false, false, false]) rfl rfl rfl ?_
     (first | (refine ST.st (st_store_map2 inf88 rfl rfl rfl rfl rfl rfl rfl rfl (by first | assumption | omega)) ?_) | (refine ST.st (st_store inf88 rfl rfl rfl rfl rfl rfl rfl (by first | decide | (simp; done)) rfl) ?_))
     (first | (refine AN.rp (i := 7) (l' := #[true, true, true, true, true, true, true, true, false, false]) rfl rfl rfl (fun _ _ h => h) (by kernel_rfl) rfl (rp_nilCheck rfl rfl) ?_) | (refine AN.rp (i := 7) (l' := #[true, true, true, true, true, true, true, true, false, false]) rfl rfl rfl (fun _ _ h => h) (by kernel_rfl) rfl (rp_nilCheck_ad rfl rfl) ?_))
     (first | (refine AN.rp (i := 8) (l' := #[true, true, true, true, true, true, true, true, true, false]) rfl rfl rfl (fun _ _ h => h) (by kernel_rfl) rfl (rp_field_ref Tryd.underlying91 rfl rfl rfl inf89 (by decide) rfl) ?_) | (refine AN.rp (i := 8) (l' := #[true, true, true, true, true, true, true, true, true, false]) rfl rfl rfl (fun _ _ h => h) (by kernel_rfl) rfl (rp_field_ad Tryd.underlying91 rfl rfl rfl inf89 (by decide) rfl) ?_))
     refine AN.br1 (i := 9) (by kernel_rfl) ?_
     refine BR.mk (l' := #[true, true, true, true, true, true, true, true, true, true]) rfl rfl rfl ?_
     (first | (refine ST.st (st_store_map2 inf89 rfl rfl rfl rfl rfl rfl rfl rfl (by first | assumption | omega)) ?_) | (refine ST.st (st_store inf89 rfl rfl rfl rfl rfl rfl rfl (by first | decide | (simp; done)) rfl) ?_))
     refine AN.nil (by kernel_rfl) ?_
     show Less _ _
     (try simp only [S.put, S.newObj, setL, V.cs, List.length_cons, List.length_nil, List.take_succ_cons, List.take_zero, List.drop_succ_cons, List.drop_zero, List.drop_nil, List.nil_append, List.cons_append, List.append_nil, Nat.zero_add, Nat.reduceAdd, List.map_cons, List.map_nil, List.set_cons_zero, List.set_cons_succ])
     try simp only [S.dd, ddL, List.contains_cons, List.contains_nil, Nat.reduceBEq, beq_self_eq_true, Bool.or_false, Bool.or_true, Bool.false_or, Bool.true_or, Bool.or_self, if_true, if_false, Bool.false_eq_true, ↓reduceIte]
     exact (Less.of rfl (by repeat (first | exact trivial | refine ⟨⟨_, rfl, Wk.refl _⟩, ?_⟩)) (by repeat (first | exact trivial | refine ⟨rfl, ?_⟩)) rfl)
    ·refine BR.mk (l' := #[true, false, true, true, true, true, true, false, false, false]) rfl rfl rfl ?_
     (first | (refine ST.st (st_store_map2 inf88 rfl rfl rfl rfl rfl rfl rfl rfl (by first | assumption | omega)) ?_) | (refine ST.st (st_store inf88 rfl rfl rfl rfl rfl rfl rfl (by first | decide | (simp; done)) rfl) ?_))
     refine AN.br1 (i := 1) (by kernel_rfl) ?_
     refine BR.mk (l' := #[true, true, true, true, true, true, true, false, false, false]) rfl rfl rfl ?_
     (first | (refine ST.rd rfl (rd_load_ref Tryd.underlying75 rfl rfl rfl rfl rfl rfl) ?_) | (refine ST.rd rfl (rd_load_ad Tryd.underlying75 rfl rfl rfl rfl) ?_) | (refine ST.rd rfl (rd_load_map Tryd.underlying75 rfl rfl rfl rfl rfl rfl (by assumption)) ?_) | (refine ST.rd rfl (rd_load_flat Tryd.underlying75 rfl rfl rfl rfl rfl rfl (fun _ => rfl) (by assumption) rfl) ?_))
     (first | (refine AN.rp (i := 7) (l' := #[true, true, true, true, true, true, true, true, false, false]) rfl rfl rfl (fun _ _ h => h) (by kernel_rfl) rfl (rp_nilCheck rfl rfl) ?_) | (refine AN.rp (i := 7) (l' := #[true, true, true, true, true, true, true, true, false, false]) rfl rfl rfl (fun _ _ h => h) (by kernel_rfl) rfl (rp_nilCheck_ad rfl rfl) ?_))
     (first | (refine AN.rp (i := 8) (l' := #[true, true, true, true, true, true, true, true, true, false]) rfl rfl rfl (fun _ _ h => h) (by kernel_rfl) rfl (rp_field_ref Tryd.underlying91 rfl rfl rfl inf89 (by decide) rfl) ?_) | (refine AN.rp (i := 8) (l' := #[true, true, true, true, true, true, true, true, true, false]) rfl rfl rfl (fun _ _ h => h) (by kernel_rfl) rfl (rp_field_ad Tryd.underlying91 rfl rfl rfl inf89 (by decide) rfl) ?_))
     refine AN.br1 (i := 9) (by kernel_rfl) ?_
     refine BR.mk (l' := #[true, true, true, true, true, true, true, true, true, true]) rfl rfl rfl ?_
     (first | (refine ST.st (st_store_map2 inf89 rfl rfl rfl rfl rfl rfl rfl rfl (by first | assumption | omega)) ?_) | (refine ST.st (st_store inf89 rfl rfl rfl rfl rfl rfl rfl (by first | decide | (simp; done)) rfl) ?_))
     refine AN.nil (by kernel_rfl) ?_
     show Less _ _
     (try simp only [S.put, S.newObj, setL, V.cs, List.length_cons, List.length_nil, List.take_succ_cons, List.take_zero, List.drop_succ_cons, List.drop_zero, List.drop_nil, List.nil_append, List.cons_append, List.append_nil, Nat.zero_add, Nat.reduceAdd, List.map_cons, List.map_nil, List.set_cons_zero, List.set_cons_succ])
     try simp only [S.dd, ddL, List.contains_cons, List.contains_nil, Nat.reduceBEq, beq_self_eq_true, Bool.or_false, Bool.or_true, Bool.false_or, Bool.true_or, Bool.or_self, if_true, if_false, Bool.false_eq_true, ↓reduceIte]
     exact (Less.of rfl (by repeat (first | exact trivial | refine ⟨⟨_, rfl, Wk.refl _⟩, ?_⟩)) (by repeat (first | exact trivial | refine ⟨rfl, ?_⟩)) rfl)
   ·refine BR.mk (l' := #[true, false, true, false, true, true, true, false, false, false]) rfl rfl rfl ?_
    (first | (refine ST.st (st_store_map2 inf88 rfl rfl rfl rfl rfl rfl rfl rfl (by first | assumption | omega)) ?_) | (refine ST.st (st_store inf88 rfl rfl rfl rfl rfl rfl rfl (by first | decide | (simp; done)) rfl) ?_))
    refine AN.br2 (i := 1) (j := 3) (by kernel_rfl) ?_ ?_
    ·refine BR.mk (l' := #[true, true, true, false, true, true, true, false, false, false]) rfl rfl rfl ?_
     (first | (refine ST.rd rfl (rd_load_ref Tryd.underlying75 rfl rfl rfl rfl rfl rfl) ?_) | (refine ST.rd rfl (rd_load_ad Tryd.underlying75 rfl rfl rfl rfl) ?_) | (refine ST.rd rfl (rd_load_map Tryd.underlying75 rfl rfl rfl rfl rfl rfl (by assumption)) ?_) | (refine ST.rd rfl (rd_load_flat Tryd.underlying75 rfl rfl rfl rfl rfl rfl (fun _ => rfl) (by assumption) rfl) ?_))
     refine AN.br1 (i := 3) (by kernel_rfl) ?_
     refine BR.mk (l' := #[true, true, true, true, true, true, true, false, false, false]) rfl rfl rfl ?_
     (first | (refine ST.sm (sm_makeMap2 false 5 810 811 rfl (by first | rfl | simp [S.clean, S.put, S.newObj, S.forget, V.has, V.hasL, junkIf, setL, V.cs, hasL_i, hasL_vd, hasL_vdt, hasL_d, hasL_b, hasL_s, hasL_n, hasL_rep, hasL_flat, hasL_append, -List.map_set]) rfl rfl rfl) ?_) | (refine ST.sm (sm_makeMap 811 rfl (by first | rfl | simp [S.clean, S.put, S.newObj, S.forget, V.has, V.hasL, junkIf, setL, V.cs, hasL_i, hasL_vd, hasL_vdt, hasL_d, hasL_b, hasL_s, hasL_n, hasL_rep, hasL_flat, hasL_append, -List.map_set]) rfl) ?_))
     try simp only [S.put, List.map_cons, List.map_nil, rowMap, to2_d, to2_ref, to2_own, to2_junk, to2_F, to2_T, List.getElem_toArray, List.getElem_cons_zero, List.getElem_cons_succ, List.set_cons_zero, List.set_cons_succ, Bool.not_true, Bool.not_false, if_true, if_false, Bool.false_eq_true, ↓reduceIte]
     (first | (refine AN.rp (i := 7) (l' := #[true, true, true, true, true, true, true, true, false, false]) rfl rfl rfl (fun _ _ h => h) (by kernel_rfl) rfl (rp_nilCheck rfl rfl) ?_) | (refine AN.rp (i := 7) (l' := #[true, true, true, true, true, true, true, true, false, false]) rfl rfl rfl (fun _ _ h => h) (by kernel_rfl) rfl (rp_nilCheck_ad rfl rfl) ?_))
     (first | (refine AN.rp (i := 8) (l' := #[true, true, true, true, true, true, true, true, true, false]) rfl rfl rfl (fun _ _ h => h) (by kernel_rfl) rfl (rp_field_ref Tryd.underlying91 rfl rfl rfl inf89 (by decide) rfl) ?_) | (refine AN.rp (i := 8) (l' := #[true, true, true, true, true, true, true, true, true, false]) rfl rfl rfl (fun _ _ h => h) (by kernel_rfl) rfl (rp_field_ad Tryd.underlying91 rfl rfl rfl inf89 (by decide) rfl) ?_))
     refine AN.br1 (i := 9) (by kernel_rfl) ?_
     refine BR.mk (l' := #[true, true, true, true, true, true, true, true, true, true]) rfl rfl rfl ?_
     (first | (refine ST.st (st_store_map2 inf89 rfl rfl rfl rfl rfl rfl rfl rfl (by first | assumption | omega)) ?_) | (refine ST.st (st_store inf89 rfl rfl rfl rfl rfl rfl rfl (by first | decide | (simp; done)) rfl) ?_))
     refine AN.nil (by kernel_rfl) ?_
     show Less _ _
     (try simp only [S.put, S.newObj, setL, V.cs, List.length_cons, List.length_nil, List.take_succ_cons, List.take_zero, List.drop_succ_cons, List.drop_zero, List.drop_nil, List.nil_append, List.cons_append, List.append_nil, Nat.zero_add, Nat.reduceAdd, List.map_cons, List.map_nil, List.set_cons_zero, List.set_cons_succ])
     try simp only [S.dd, ddL, List.contains_cons, List.contains_nil, Nat.reduceBEq, beq_self_eq_true, Bool.or_false, Bool.or_true, Bool.false_or, Bool.true_or, Bool.or_self, if_true, if_false, Bool.false_eq_true, ↓reduceIte]
     exact (Less.of rfl (by repeat (first | exact trivial | refine ⟨⟨_, rfl, Wk.refl _⟩, ?_⟩)) (by repeat (first | exact trivial | refine ⟨rfl, ?_⟩)) rfl)
    ·refine BR.mk (l' := #[true, false, true, true, true, true, true, false, false, false]) rfl rfl rfl ?_
     (first | (refine ST.sm (sm_makeMap2 false 5 810 811 rfl (by first | rfl | simp [S.clean, S.put, S.newObj, S.forget, V.has, V.hasL, junkIf, setL, V.cs, hasL_i, hasL_vd, hasL_vdt, hasL_d, hasL_b, hasL_s, hasL_n, hasL_rep, hasL_flat, hasL_append, -List.map_set]) rfl rfl rfl) ?_) | (refine ST.sm (sm_makeMap 811 rfl (by first | rfl | simp [S.clean, S.put, S.newObj, S.forget, V.has, V.hasL, junkIf, setL, V.cs, hasL_i, hasL_vd, hasL_vdt, hasL_d, hasL_b, hasL_s, hasL_n, hasL_rep, hasL_flat, hasL_append, -List.map_set]) rfl) ?_))
     try simp only [S.put, List.map_cons, List.map_nil, rowMap, to2_d, to2_ref, to2_own, to2_junk, to2_F, to2_T, List.getElem_toArray, List.getElem_cons_zero, List.getElem_cons_succ, List.set_cons_zero, List.set_cons_succ, Bool.not_true, Bool.not_false, if_true, if_false, Bool.false_eq_true, ↓reduceIte]
     refine AN.br1 (i := 1) (by kernel_rfl) ?_
     refine BR.mk (l' := #[true, true, true, true, true, true, true, false, false, false]) rfl rfl rfl ?_
     (first | (refine ST.rd rfl (rd_load_ref Tryd.underlying75 rfl rfl rfl rfl rfl rfl) ?_) | (refine ST.rd rfl (rd_load_ad Tryd.underlying75 rfl rfl rfl rfl) ?_) | (refine ST.rd rfl (rd_load_map Tryd.underlying75 rfl rfl rfl rfl rfl rfl (by assumption)) ?_) | (refine ST.rd rfl (rd_load_flat Tryd.underlying75 rfl rfl rfl rfl rfl rfl (fun _ => rfl) (by assumption) rfl) ?_))
     (first | (refine AN.rp (i := 7) (l' := #[true, true, true, true, true, true, true, true, false, false]) rfl rfl rfl (fun _ _ h => h) (by kernel_rfl) rfl (rp_nilCheck rfl rfl) ?_) | (refine AN.rp (i := 7) (l' := #[true, true, true, true, true, true, true, true, false, false]) rfl rfl rfl (fun _ _ h => h) (by kernel_rfl) rfl (rp_nilCheck_ad rfl rfl) ?_))
     (first | (refine AN.rp (i := 8) (l' := #[true, true, true, true, true, true, true, true, true, false]) rfl rfl rfl (fun _ _ h => h) (by kernel_rfl) rfl (rp_field_ref Tryd.underlying91 rfl rfl rfl inf89 (by decide) rfl) ?_) | (refine AN.rp (i := 8) (l' := #[true, true, true, true, true, true, true, true, true, false]) rfl rfl rfl (fun _ _ h => h) (by kernel_rfl) rfl (rp_field_ad Tryd.underlying91 rfl rfl rfl inf89 (by decide) rfl) ?_))
     refine AN.br1 (i := 9) (by kernel_rfl) ?_
     refine BR.mk (l' := #[true, true, true, true, true, true, true, true, true, true]) rfl rfl rfl ?_
     (first | (refine ST.st (st_store_map2 inf89 rfl rfl rfl rfl rfl rfl rfl rfl (by first | assumption | omega)) ?_) | (refine ST.st (st_store inf89 rfl rfl rfl rfl rfl rfl rfl (by first | decide | (simp; done)) rfl) ?_))
     refine AN.nil (by kernel_rfl) ?_
     show Less _ _
     (try simp only [S.put, S.newObj, setL, V.cs, List.length_cons, List.length_nil, List.take_succ_cons, List.take_zero, List.drop_succ_cons, List.drop_zero, List.drop_nil, List.nil_append, List.cons_append, List.append_nil, Nat.zero_add, Nat.reduceAdd, List.map_cons, List.map_nil, List.set_cons_zero, List.set_cons_succ])
     try simp only [S.dd, ddL, List.contains_cons, List.contains_nil, Nat.reduceBEq, beq_self_eq_true, Bool.or_false, Bool.or_true, Bool.false_or, Bool.true_or, Bool.or_self, if_true, if_false, Bool.false_eq_true, ↓reduceIte]
     exact (Less.of rfl (by repeat (first | exact trivial | refine ⟨⟨_, rfl, Wk.refl _⟩, ?_⟩)) (by repeat (first | exact trivial | refine ⟨rfl, ?_⟩)) rfl)
  ·refine BR.mk (l' := #[true, false, false, true, false, false, false, false, false, false]) rfl rfl rfl ?_
   (first | (refine ST.sm (sm_makeMap2 false 5 810 811 rfl (by first | rfl | simp [S.clean, S.put, S.newObj, S.forget, V.has, V.hasL, junkIf, setL, V.cs, hasL_i, hasL_vd, hasL_vdt, hasL_d, hasL_b, hasL_s, hasL_n, hasL_rep, hasL_flat, hasL_append, -List.map_set]) rfl rfl rfl) ?_) | (refine ST.sm (sm_makeMap 811 rfl (by first | rfl | simp [S.clean, S.put, S.newObj, S.forget, V.has, V.hasL, junkIf, setL, V.cs, hasL_i, hasL_vd, hasL_vdt, hasL_d, hasL_b, hasL_s, hasL_n, hasL_rep, hasL_flat, hasL_append, -List.map_set]) rfl) ?_))
   try simp only [S.put, List.map_cons, List.map_nil, rowMap, to2_d, to2_ref, to2_own, to2_junk, to2_F, to2_T, List.getElem_toArray, List.getElem_cons_zero, List.getElem_cons_succ, List.set_cons_zero, List.set_cons_succ, Bool.not_true, Bool.not_false, if_true, if_false, Bool.false_eq_true, ↓reduceIte]
   refine AN.br2 (i := 1) (j := 2) (by kernel_rfl) ?_ ?_
   ·refine BR.mk (l' := #[true, true, false, true, false, false, false, false, false, false]) rfl rfl rfl ?_
    (first | (refine ST.rd rfl (rd_load_ref Tryd.underlying75 rfl rfl rfl rfl rfl rfl) ?_) | (refine ST.rd rfl (rd_load_ad Tryd.underlying75 rfl rfl rfl rfl) ?_) | (refine ST.rd rfl (rd_load_map Tryd.underlying75 rfl rfl rfl rfl rfl rfl (by assumption)) ?_) | (refine ST.rd rfl (rd_load_flat Tryd.underlying75 rfl rfl rfl rfl rfl rfl (fun _ => rfl) (by assumption) rfl) ?_))
    refine AN.br1 (i := 2) (by kernel_rfl) ?_
    refine BR.mk (l' := #[true, true, true, true, false, false, false, false, false, false]) rfl rfl rfl ?_
    (first | (refine ST.sm (sm_makeMap2 true 6 810 811 rfl (by first | rfl | simp [S.clean, S.put, S.newObj, S.forget, V.has, V.hasL, junkIf, setL, V.cs, hasL_i, hasL_vd, hasL_vdt, hasL_d, hasL_b, hasL_s, hasL_n, hasL_rep, hasL_flat, hasL_append, -List.map_set]) rfl rfl rfl) ?_) | (refine ST.sm (sm_makeMap 810 rfl (by first | rfl | simp [S.clean, S.put, S.newObj, S.forget, V.has, V.hasL, junkIf, setL, V.cs, hasL_i, hasL_vd, hasL_vdt, hasL_d, hasL_b, hasL_s, hasL_n, hasL_rep, hasL_flat, hasL_append, -List.map_set]) rfl) ?_))
    try simp only [S.put, List.map_cons, List.map_nil, rowMap, to2_d, to2_ref, to2_own, to2_junk, to2_F, to2_T, List.getElem_toArray, List.getElem_cons_zero, List.getElem_cons_succ, List.set_cons_zero, List.set_cons_succ, Bool.not_true, Bool.not_false, if_true, if_false, Bool.false_eq_true, ↓reduceIte]
    (first | (refine AN.rp (i := 4) (l' := #[true, true, true, true, true, false, false, false, false, false]) rfl rfl rfl (fun _ _ h => h) (by kernel_rfl) rfl (rp_nilCheck rfl rfl) ?_) | (refine AN.rp (i := 4) (l' := #[true, true, true, true, true, false, false, false, false, false]) rfl rfl rfl (fun _ _ h => h) (by kernel_rfl) rfl (rp_nilCheck_ad rfl rfl) ?_))
    (first | (refine AN.rp (i := 5) (l' := #[true, true, true, true, true, true, false, false, false, false]) rfl rfl rfl (fun _ _ h => h) (by kernel_rfl) rfl (rp_field_ref Tryd.underlying91 rfl rfl rfl inf88 (by decide) rfl) ?_) | (refine AN.rp (i := 5) (l' := #[true, true, true, true, true, true, false, false, false, false]) rfl rfl rfl (fun _ _ h => h) (by kernel_rfl) rfl (rp_field_ad Tryd.underlying91 rfl rfl rfl inf88 (by decide) rfl) ?_))
    refine AN.br1 (i := 6) (by kernel_rfl) ?_
    refine BR.mk (l' := #[true, true, true, true, true, true, true, false, false, false]) rfl rfl rfl ?_
    (first | (refine ST.st (st_store_map2 inf88 rfl rfl rfl rfl rfl rfl rfl rfl (by first | assumption | omega)) ?_) | (refine ST.st (st_store inf88 rfl rfl rfl rfl rfl rfl rfl (by first | decide | (simp; done)) rfl) ?_))
    (first | (refine AN.rp (i := 7) (l' := #[true, true, true, true, true, true, true, true, false, false]) rfl rfl rfl (fun _ _ h => h) (by kernel_rfl) rfl (rp_nilCheck rfl rfl) ?_) | (refine AN.rp (i := 7) (l' := #[true, true, true, true, true, true, true, true, false, false]) rfl rfl rfl (fun _ _ h => h) (by kernel_rfl) rfl (rp_nilCheck_ad rfl rfl) ?_))
    (first | (refine AN.rp (i := 8) (l' := #[true, true, true, true, true, true, true, true, true, false]) rfl rfl rfl (fun _ _ h => h) (by kernel_rfl) rfl (rp_field_ref Tryd.underlying91 rfl rfl rfl inf89 (by decide) rfl) ?_) | (refine AN.rp (i := 8) (l' := #[true, true, true, true, true, true, true, true, true, false]) rfl rfl rfl (fun _ _ h => h) (by kernel_rfl) rfl (rp_field_ad Tryd.underlying91 rfl rfl rfl inf89 (by decide) rfl) ?_))
    refine AN.br1 (i := 9) (by kernel_rfl) ?_
    refine BR.mk (l' := #[true, true, true, true, true, true, true, true, true, true]) rfl rfl rfl ?_
    (first | (refine ST.st (st_store_map2 inf89 rfl rfl rfl rfl rfl rfl rfl rfl (by first | assumption | omega)) ?_) | (refine ST.st (st_store inf89 rfl rfl rfl rfl rfl rfl rfl (by first | decide | (simp; done)) rfl) ?_))
    refine AN.nil (by kernel_rfl) ?_
    show Less _ _
    (try simp only [S.put, S.newObj, setL, V.cs, List.length_cons, List.length_nil, List.take_succ_cons, List.take_zero, List.drop_succ_cons, List.drop_zero, List.drop_nil, List.nil_append, List.cons_append, List.append_nil, Nat.zero_add, Nat.reduceAdd, List.map_cons, List.map_nil, List.set_cons_zero, List.set_cons_succ])
    try simp only [S.dd, ddL, List.contains_cons, List.contains_nil, Nat.reduceBEq, beq_self_eq_true, Bool.or_false, Bool.or_true, Bool.false_or, Bool.true_or, Bool.or_self, if_true, if_false, Bool.false_eq_true, ↓reduceIte]
    exact (Less.of rfl (by repeat (first | exact trivial | refine ⟨⟨_, rfl, Wk.refl _⟩, ?_⟩)) (by repeat (first | exact trivial | refine ⟨rfl, ?_⟩)) rfl)
   ·refine BR.mk (l' := #[true, false, true, true, false, false, false, false, false, false]) rfl rfl rfl ?_
    (first | (refine ST.sm (sm_makeMap2 true 6 810 811 rfl (by first | rfl | simp [S.clean, S.put, S.newObj, S.forget, V.has, V.hasL, junkIf, setL, V.cs, hasL_i, hasL_vd, hasL_vdt, hasL_d, hasL_b, hasL_s, hasL_n, hasL_rep, hasL_flat, hasL_append, -List.map_set]) rfl rfl rfl) ?_) | (refine ST.sm (sm_makeMap 810 rfl (by first | rfl | simp [S.clean, S.put, S.newObj, S.forget, V.has, V.hasL, junkIf, setL, V.cs, hasL_i, hasL_vd, hasL_vdt, hasL_d, hasL_b, hasL_s, hasL_n, hasL_rep, hasL_flat, hasL_append, -List.map_set]) rfl) ?_))
    try simp only [S.put, List.map_cons, List.map_nil, rowMap, to2_d, to2_ref, to2_own, to2_junk, to2_F, to2_T, List.getElem_toArray, List.getElem_cons_zero, List.getElem_cons_succ, List.set_cons_zero, List.set_cons_succ, Bool.not_true, Bool.not_false, if_true, if_false, Bool.false_eq_true, ↓reduceIte]
    (first | (refine AN.rp (i := 4) (l' := #[true, false, true, true, true, false, false, false, false, false]) rfl rfl rfl (fun _ _ h => h) (by kernel_rfl) rfl (rp_nilCheck rfl rfl) ?_) | (refine AN.rp (i := 4) (l' := #[true, false, true, true, true, false, false, false, false, false]) rfl rfl rfl (fun _ _ h => h) (by kernel_rfl) rfl (rp_nilCheck_ad rfl rfl) ?_))
    (first | (refine AN.rp (i := 5) (l' := #[true, false, true, true, true, true, false, false, false, false]) rfl rfl rfl (fun _ _ h => h) (by kernel_rfl) rfl (rp_field_ref Tryd.underlying91 rfl rfl rfl inf88 (by decide) rfl) ?_) | (refine AN.rp (i := 5) (l' := #[true, false, true, true, true, true, false, false, false, false]) rfl rfl rfl (fun _ _ h => h) (by kernel_rfl) rfl (rp_field_ad Tryd.underlying91 rfl rfl rfl inf88 (by decide) rfl) ?_))
    refine AN.br2 (i := 1) (j := 6) (by kernel_rfl) ?_ ?_
    ·refine BR.mk (l' := #[true, true, true, true, true, true, false, false, false, false]) rfl rfl rfl ?_
     (first | (refine ST.rd rfl (rd_load_ref Tryd.underlying75 rfl rfl rfl rfl rfl rfl) ?_) | (refine ST.rd rfl (rd_load_ad Tryd.underlying75 rfl rfl rfl rfl) ?_) | (refine ST.rd rfl (rd_load_map Tryd.underlying75 rfl rfl rfl rfl rfl rfl (by assumption)) ?_) | (refine ST.rd rfl (rd_load_flat Tryd.underlying75 rfl rfl rfl rfl rfl rfl (fun _ => rfl) (by assumption) rfl) ?_))
     refine AN.br1 (i := 6) (by kernel_rfl) ?_
     refine BR.mk (l' := #[true, true, true, true, true, true, true, false, false, false]) rfl rfl rfl ?_
     (first | (refine ST.st (st_store_map2 inf88 rfl rfl rfl rfl rfl rfl rfl rfl (by first | assumption | omega)) ?_) | (refine ST.st (st_store inf88 rfl rfl rfl rfl rfl rfl rfl (by first | decide | (simp; done)) rfl) ?_))
     (first | (refine AN.rp (i := 7) (l' := #[true, true, true, true, true, true, true, true, false, false]) rfl rfl rfl (fun _ _ h => h) (by kernel_rfl) rfl (rp_nilCheck rfl rfl) ?_) | (refine AN.rp (i := 7) (l' := #[true, true, true, true, true, true, true, true, false, false]) rfl rfl rfl (fun _ _ h => h) (by kernel_rfl) rfl (rp_nilCheck_ad rfl rfl) ?_))
     (first | (refine AN.rp (i := 8) (l' := #[true, true, true, true, true, true, true, true, true, false]) rfl rfl rfl (fun _ _ h => h) (by kernel_rfl) rfl (rp_field_ref Tryd.underlying91 rfl rfl rfl inf89 (by decide) rfl) ?_) | (refine AN.rp (i := 8) (l' := #[true, true, true, true, true, true, true, true, true, false]) rfl rfl rfl (fun _ _ h => h) (by kernel_rfl) rfl (rp_field_ad Tryd.underlying91 rfl rfl rfl inf89 (by decide) rfl) ?_))
     refine AN.br1 (i := 9) (by kernel_rfl) ?_
     refine BR.mk (l' := #[true, true, true, true, true, true, true, true, true, true]) rfl rfl rfl ?_
     (first | (refine ST.st (st_store_map2 inf89 rfl rfl rfl rfl rfl rfl rfl rfl (by first | assumption | omega)) ?_) | (refine ST.st (st_store inf89 rfl rfl rfl rfl rfl rfl rfl (by first | decide | (simp; done)) rfl) ?_))
     refine AN.nil (by kernel_rfl) ?_
     show Less _ _
     (try simp only [S.put, S.newObj, setL, V.cs, List.length_cons, List.length_nil, List.take_succ_cons, List.take_zero, List.drop_succ_cons, List.drop_zero, List.drop_nil, List.nil_append, List.cons_append, List.append_nil, Nat.zero_add, Nat.reduceAdd, List.map_cons, List.map_nil, List.set_cons_zero, List.set_cons_succ])
     try simp only [S.dd, ddL, List.contains_cons, List.contains_nil, Nat.reduceBEq, beq_self_eq_true, Bool.or_false, Bool.or_true, Bool.false_or, Bool.true_or, Bool.or_self, if_true, if_false, Bool.false_eq_true, ↓reduceIte]
     exact (Less.of rfl (by repeat (first | exact trivial | refine ⟨⟨_, rfl, Wk.refl _⟩, ?_⟩)) (by repeat (first | exact trivial | refine ⟨rfl, ?_⟩)) rfl)
    ·refine BR.mk (l' := #[true, false, true, true, true, true, true, false, false, false]) rfl rfl rfl ?_
     (first | (refine ST.st (st_store_map2 inf88 rfl rfl rfl rfl rfl rfl rfl rfl (by first | assumption | omega)) ?_) | (refine ST.st (st_store inf88 rfl rfl rfl rfl rfl rfl rfl (by first | decide | (simp; done)) rfl) ?_))
     refine AN.br1 (i := 1) (by kernel_rfl) ?_
     refine BR.mk (l' := #[true, true, true, true, true, true, true, false, false, false]) rfl rfl rfl ?_
     (first | (refine ST.rd rfl (rd_load_ref Tryd.underlying75 rfl rfl rfl rfl rfl rfl) ?_) | (refine ST.rd rfl (rd_load_ad Tryd.underlying75 rfl rfl rfl rfl) ?_) | (refine ST.rd rfl (rd_load_map Tryd.underlying75 rfl rfl rfl rfl rfl rfl (by assumption)) ?_) | (refine ST.rd rfl (rd_load_flat Tryd.underlying75 rfl rfl rfl rfl rfl rfl (fun _ => rfl) (by assumption) rfl) ?_))
     (first | (refine AN.rp (i := 7) (l' := #[true, true, true, true, true, true, true, true, false, false]) rfl rfl rfl (fun _ _ h => h) (by kernel_rfl) rfl (rp_nilCheck rfl rfl) ?_) | (refine AN.rp (i := 7) (l' := #[true, true, true, true, true, true, true, true, false, false]) rfl rfl rfl (fun _ _ h => h) (by kernel_rfl) rfl (rp_nilCheck_ad rfl rfl) ?_))
     (first | (refine AN.rp (i := 8) (l' := #[true, true, true, true, true, true, true, true, true, false]) rfl rfl rfl (fun _ _ h => h) (by kernel_rfl) rfl (rp_field_ref Tryd.underlying91 rfl rfl rfl inf89 (by decide) rfl) ?_) | (refine AN.rp (i := 8) (l' := #[true, true, true, true, true, true, true, true, true, false]) rfl rfl rfl (fun _ _ h => h) (by kernel_rfl) rfl (rp_field_ad Tryd.underlying91 rfl rfl rfl inf89 (by decide) rfl) ?_))
     refine AN.br1 (i := 9) (by kernel_rfl) ?_
     refine BR.mk (l' := #[true, true, true, true, true, true, true, true, true, true]) rfl rfl rfl ?_
     (first | (refine ST.st (st_store_map2 inf89 rfl rfl rfl rfl rfl rfl rfl rfl (by first | assumption | omega)) ?_) | (refine ST.st (st_store inf89 rfl rfl rfl rfl rfl rfl rfl (by first | decide | (simp; done)) rfl) ?_))
     refine AN.nil (by kernel_rfl) ?_
     show Less _ _
     (try simp only [S.put, S.newObj, setL, V.cs, List.length_cons, List.length_nil, List.take_succ_cons, List.take_zero, List.drop_succ_cons, List.drop_zero, List.drop_nil, List.nil_append, List.cons_append, List.append_nil, Nat.zero_add, Nat.reduceAdd, List.map_cons, List.map_nil, List.set_cons_zero, List.set_cons_succ])
     try simp only [S.dd, ddL, List.contains_cons, List.contains_nil, Nat.reduceBEq, beq_self_eq_true, Bool.or_false, Bool.or_true, Bool.false_or, Bool.true_or, Bool.or_self, if_true, if_false, Bool.false_eq_true, ↓reduceIte]
     exact (Less.of rfl (by repeat (first | exact trivial | refine ⟨⟨_, rfl, Wk.refl _⟩, ?_⟩)) (by repeat (first | exact trivial | refine ⟨rfl, ?_⟩)) rfl)
 ·refine BR.mk (l' := #[false, true, false, false, false, false, false, false, false, false]) rfl rfl rfl ?_
  (first | (refine ST.rd rfl (rd_load_ref Tryd.underlying75 rfl rfl rfl rfl rfl rfl) ?_) | (refine ST.rd rfl (rd_load_ad Tryd.underlying75 rfl rfl rfl rfl) ?_) | (refine ST.rd rfl (rd_load_map Tryd.underlying75 rfl rfl rfl rfl rfl rfl (by assumption)) ?_) | (refine ST.rd rfl (rd_load_flat Tryd.underlying75 rfl rfl rfl rfl rfl rfl (fun _ => rfl) (by assumption) rfl) ?_))
  refine AN.br3 (i := 0) (j := 2) (k := 3) (by kernel_rfl) ?_ ?_ ?_
  ·refine BR.mk (l' := #[true, true, false, false, false, false, false, false, false, false]) rfl rfl rfl ?_
   (first | (refine ST.rd rfl (rd_load_ref Tryd.underlying75 rfl rfl rfl rfl rfl rfl) ?_) | (refine ST.rd rfl (rd_load_ad Tryd.underlying75 rfl rfl rfl rfl) ?_) | (refine ST.rd rfl (rd_load_map Tryd.underlying75 rfl rfl rfl rfl rfl rfl (by assumption)) ?_) | (refine ST.rd rfl (rd_load_flat Tryd.underlying75 rfl rfl rfl rfl rfl rfl (fun _ => rfl) (by assumption) rfl) ?_))
   refine AN.br2 (i := 2) (j := 3) (by kernel_rfl) ?_ ?_
   ·refine BR.mk (l' := #[true, true, true, false, false, false, false, false, false, false]) rfl rfl rfl ?_
    (first | (refine ST.sm (sm_makeMap2 true 6 810 811 rfl (by first | rfl | simp [S.clean, S.put, S.newObj, S.forget, V.has, V.hasL, junkIf, setL, V.cs, hasL_i, hasL_vd, hasL_vdt, hasL_d, hasL_b, hasL_s, hasL_n, hasL_rep, hasL_flat, hasL_append, -List.map_set]) rfl rfl rfl) ?_) | (refine ST.sm (sm_makeMap 810 rfl (by first | rfl | simp [S.clean, S.put, S.newObj, S.forget, V.has, V.hasL, junkIf, setL, V.cs, hasL_i, hasL_vd, hasL_vdt, hasL_d, hasL_b, hasL_s, hasL_n, hasL_rep, hasL_flat, hasL_append, -List.map_set]) rfl) ?_))
    try simp only [S.put, List.map_cons, List.map_nil, rowMap, to2_d, to2_ref, to2_own, to2_junk, to2_F, to2_T, List.getElem_toArray, List.getElem_cons_zero, List.getElem_cons_succ, List.set_cons_zero, List.set_cons_succ, Bool.not_true, Bool.not_false, if_true, if_false, Bool.false_eq_true, ↓reduceIte]
    (first | (refine AN.rp (i := 4) (l' := #[true, true, true, false, true, false, false, false, false, false]) rfl rfl rfl (fun _ _ h => h) (by kernel_rfl) rfl (rp_nilCheck rfl rfl) ?_) | (refine AN.rp (i := 4) (l' := #[true, true, true, false, true, false, false, false, false, false]) rfl rfl rfl (fun _ _ h => h) (by kernel_rfl) rfl (rp_nilCheck_ad rfl rfl) ?_))
    (first | (refine AN.rp (i := 5) (l' := #[true, true, true, false, true, true, false, false, false, false]) rfl rfl rfl (fun _ _ h => h) (by kernel_rfl) rfl (rp_field_ref Tryd.underlying91 rfl rfl rfl inf88 (by decide) rfl) ?_) | (refine AN.rp (i := 5) (l' := #[true, true, true, false, true, true, false, false, false, false]) rfl rfl rfl (fun _ _ h => h) (by kernel_rfl) rfl (rp_field_ad Tryd.underlying91 rfl rfl rfl inf88 (by decide) rfl) ?_))
    refine AN.br2 (i := 3) (j := 6) (by kernel_rfl) ?_ ?_
    ·refine BR.mk (l' := #[true, true, true, true, true, true, false, false, false, false]) rfl rfl rfl ?_
     (first | (refine ST.sm (sm_makeMap2 false 5 810 811 rfl (by first | rfl | simp [S.clean, S.put, S.newObj, S.forget, V.has, V.hasL, junkIf, setL, V.cs, hasL_i, hasL_vd, hasL_vdt, hasL_d, hasL_b, hasL_s, hasL_n, hasL_rep, hasL_flat, hasL_append, -List.map_set]) rfl rfl rfl) ?_) | (refine ST.sm (sm_makeMap 811 rfl (by first | rfl | simp [S.clean, S.put, S.newObj, S.forget, V.has, V.hasL, junkIf, setL, V.cs, hasL_i, hasL_vd, hasL_vdt, hasL_d, hasL_b, hasL_s, hasL_n, hasL_rep, hasL_flat, hasL_append, -List.map_set]) rfl) ?_))
     try simp only [S.put, List.map_cons, List.map_nil, rowMap, to2_d, to2_ref, to2_own, to2_junk, to2_F, to2_T, List.getElem_toArray, List.getElem_cons_zero, List.getElem_cons_succ, List.set_cons_zero, List.set_cons_succ, Bool.not_true, Bool.not_false, if_true, if_false, Bool.false_eq_true, ↓reduceIte]
     refine AN.br1 (i := 6) (by kernel_rfl) ?_
     refine BR.mk (l' := #[true, true, true, true, true, true, true, false, false, false]) rfl rfl rfl ?_
     (first | (refine ST.st (st_store_map2 inf88 rfl rfl rfl rfl rfl rfl rfl rfl (by first | assumption | omega)) ?_) | (refine ST.st (st_store inf88 rfl rfl rfl rfl rfl rfl rfl (by first | decide | (simp; done)) rfl) ?_))
     (first | (refine AN.rp (i := 7) (l' := #[true, true, true, true, true, true, true, true, false, false]) rfl rfl rfl (fun _ _ h => h) (by kernel_rfl) rfl (rp_nilCheck rfl rfl) ?_) | (refine AN.rp (i := 7) (l' := #[true, true, true, true, true, true, true, true, false, false]) rfl rfl rfl (fun _ _ h => h) (by kernel_rfl) rfl (rp_nilCheck_ad rfl rfl) ?_))
     (first | (refine AN.rp (i := 8) (l' := #[true, true, true, true, true, true, true, true, true, false]) rfl rfl rfl (fun _ _ h => h) (by kernel_rfl) rfl (rp_field_ref Tryd.underlying91 rfl rfl rfl inf89 (by decide) rfl) ?_) | (refine AN.rp (i := 8) (l' := #[true, true, true, true, true, true, true, true, true, false]) rfl rfl rfl (fun _ _ h => h) (by kernel_rfl) rfl (rp_field_ad Tryd.underlying91 rfl rfl rfl inf89 (by decide) rfl) ?_))
     refine AN.br1 (i := 9) (by kernel_rfl) ?_
     refine BR.mk (l' := #[true, true, true, true, true, true, true, true, true, true]) rfl rfl rfl ?_
     (first | (refine ST.st (st_store_map2 inf89 rfl rfl rfl rfl rfl rfl rfl rfl (by first | assumption | omega)) ?_) | (refine ST.st (st_store inf89 rfl rfl rfl rfl rfl rfl rfl (by first | decide | (simp; done)) rfl) ?_))
     refine AN.nil (by kernel_rfl) ?_
     show Less _ _
     (try simp only [S.put, S.newObj, setL, V.cs, List.length_cons, List.length_nil, List.take_succ_cons, List.take_zero, List.drop_succ_cons, List.drop_zero, List.drop_nil, List.nil_append, List.cons_append, List.append_nil, Nat.zero_add, Nat.reduceAdd, List.map_cons, List.map_nil, List.set_cons_zero, List.set_cons_succ])
     try simp only [S.dd, ddL, List.contains_cons, List.contains_nil, Nat.reduceBEq, beq_self_eq_true, Bool.or_false, Bool.or_true, Bool.false_or, Bool.true_or, Bool.or_self, if_true, if_false, Bool.false_eq_true, ↓reduceIte]
     exact (Less.of rfl (by repeat (first | exact trivial | refine ⟨⟨_, rfl, Wk.refl _⟩, ?_⟩)) (by repeat (first | exact trivial | refine ⟨rfl, ?_⟩)) rfl)
    ·refine BR.mk (l' := #[true, true, true, false, true, true, true, false, false, false]) rfl rfl rfl ?_
     (first | (refine ST.st (st_store_map2 inf88 rfl rfl rfl rfl rfl rfl rfl rfl (by first | assumption | omega)) ?_) | (refine ST.st (st_store inf88 rfl rfl rfl rfl rfl rfl rfl (by first | decide | (simp; done)) rfl) ?_))
     refine AN.br1 (i := 3) (by kernel_rfl) ?_
     refine BR.mk (l' := #[true, true, true, true, true, true, true, false, false, false]) rfl rfl rfl ?_
     (first | (refine ST.sm (sm_makeMap2 false 5 810 811 rfl (by first | rfl | simp [S.clean, S.put, S.newObj, S.forget, V.has, V.hasL, junkIf, setL, V.cs, hasL_i, hasL_vd, hasL_vdt, hasL_d, hasL_b, hasL_s, hasL_n, hasL_rep, hasL_flat, hasL_append, -List.map_set]) rfl rfl rfl) ?_) | (refine ST.sm (sm_makeMap 811 rfl (by first | rfl | simp [S.clean, S.put, S.newObj, S.forget, V.has, V.hasL, junkIf, setL, V.cs, hasL_i, hasL_vd, hasL_vdt, hasL_d, hasL_b, hasL_s, hasL_n, hasL_rep, hasL_flat, hasL_append, -List.map_set]) rfl) ?_))
     try simp only [S.put, List.map_cons, List.map_nil, rowMap, to2_d, to2_ref, to2_own, to2_junk, to2_F, to2_T, List.getElem_toArray, List.getElem_cons_zero, List.getElem_cons_succ, List.set_cons_zero, List.set_cons_succ, Bool.not_true, Bool.not_false, if_true, if_false, Bool.false_eq_true, ↓reduceIte]
     (first | (refine AN.rp (i := 7) (l' := #[true, true, true, true, true, true, true, true, false, false]) rfl rfl rfl (fun _ _ h => h) (by kernel_rfl) rfl (rp_nilCheck rfl rfl) ?_) | (refine AN.rp (i := 7) (l' := #[true, true, true, true, true, true, true, true, false, false]) rfl rfl rfl (fun _ _ h => h) (by kernel_rfl) rfl (rp_nilCheck_ad rfl rfl) ?_))
     (first | (refine AN.rp (i := 8) (l' := #[true, true, true, true, true, true, true, true, true, false]) rfl rfl rfl (fun _ _ h => h) (by kernel_rfl) rfl (rp_field_ref Tryd.underlying91 rfl rfl rfl inf89 (by decide) rfl) ?_) | (refine AN.rp (i := 8) (l' := #[true, true, true, true, true, true, true, true, true, false]) rfl rfl rfl (fun _ _ h => h) (by kernel_rfl) rfl (rp_field_ad Tryd.underlying91 rfl rfl rfl inf89 (by decide) rfl) ?_))
     refine AN.br1 (i := 9) (by kernel_rfl) ?_
     refine BR.mk (l' := #[true, true, true, true, true, true, true, true, true, true]) rfl rfl rfl ?_
     (first | (refine ST.st (st_store_map2 inf89 rfl rfl rfl rfl rfl rfl rfl rfl (by first | assumption | omega)) ?_) | (refine ST.st (st_store inf89 rfl rfl rfl rfl rfl rfl rfl (by first | decide | (simp; done)) rfl) ?_))
     refine AN.nil (by kernel_rfl) ?_
     show Less _ _
     (try simp only [S.put, S.newObj, setL, V.cs, List.length_cons, List.length_nil, List.take_succ_cons, List.take_zero, List.drop_succ_cons, List.drop_zero, List.drop_nil, List.nil_append, List.cons_append, List.append_nil, Nat.zero_add, Nat.reduceAdd, List.map_cons, List.map_nil, List.set_cons_zero, List.set_cons_succ])
     try simp only [S.dd, ddL, List.contains_cons, List.contains_nil, Nat.reduceBEq, beq_self_eq_true, Bool.or_false, Bool.or_true, Bool.false_or, Bool.true_or, Bool.or_self, if_true, if_false, Bool.false_eq_true, ↓reduceIte]
     exact (Less.of rfl (by repeat (first | exact trivial | refine ⟨⟨_, rfl, Wk.refl _⟩, ?_⟩)) (by repeat (first | exact trivial | refine ⟨rfl, ?_⟩)) rfl)
   ·refine BR.mk (l' := #[true, true, false, true, false, false, false, false, false, false]) rfl rfl rfl ?_
    (first | (refine ST.sm (sm_makeMap2 false 5 810 811 rfl (by first | rfl | simp [S.clean, S.put, S.newObj, S.forget, V.has, V.hasL, junkIf, setL, V.cs, hasL_i, hasL_vd, hasL_vdt, hasL_d, hasL_b, hasL_s, hasL_n, hasL_rep, hasL_flat, hasL_append, -List.map_set]) rfl rfl rfl) ?_) | (refine ST.sm (sm_makeMap 811 rfl (by first | rfl | simp [S.clean, S.put, S.newObj, S.forget, V.has, V.hasL, junkIf, setL, V.cs, hasL_i, hasL_vd, hasL_vdt, hasL_d, hasL_b, hasL_s, hasL_n, hasL_rep, hasL_flat, hasL_append, -List.map_set]) rfl) ?_))
    try simp only [S.put, List.map_cons, List.map_nil, rowMap, to2_d, to2_ref, to2_own, to2_junk, to2_F, to2_T, List.getElem_toArray, List.getElem_cons_zero, List.getElem_cons_succ, List.set_cons_zero, List.set_cons_succ, Bool.not_true, Bool.not_false, if_true, if_false, Bool.false_eq_true, ↓reduceIte]
    refine AN.br1 (i := 2) (by kernel_rfl) ?_
    refine BR.mk (l' := #[true, true, true, true, false, false, false, false, false, false]) rfl rfl rfl ?_
    (first | (refine ST.sm (sm_makeMap2 true 6 810 811 rfl (by first | rfl | simp [S.clean, S.put, S.newObj, S.forget, V.has, V.hasL, junkIf, setL, V.cs, hasL_i, hasL_vd, hasL_vdt, hasL_d, hasL_b, hasL_s, hasL_n, hasL_rep, hasL_flat, hasL_append, -List.map_set]) rfl rfl rfl) ?_) | (refine ST.sm (sm_makeMap 810 rfl (by first | rfl | simp [S.clean, S.put, S.newObj, S.forget, V.has, V.hasL, junkIf, setL, V.cs, hasL_i, hasL_vd, hasL_vdt, hasL_d, hasL_b, hasL_s, hasL_n, hasL_rep, hasL_flat, hasL_append, -List.map_set]) rfl) ?_))
    try simp only [S.put, List.map_cons, List.map_nil, rowMap, to2_d, to2_ref, to2_own, to2_junk, to2_F, to2_T, List.getElem_toArray, List.getElem_cons_zero, List.getElem_cons_succ, List.set_cons_zero, List.set_cons_succ, Bool.not_true, Bool.not_false, if_true, if_false, Bool.false_eq_true, ↓reduceIte]
    (first | (refine AN.rp (i := 4) (l' := #[true, true, true, true, true, false, false, false, false, false]) rfl rfl rfl (fun _ _ h => h) (by kernel_rfl) rfl (rp_nilCheck rfl rfl) ?_) | (refine AN.rp (i := 4) (l' := #[true, true, true, true, true, false, false, false, false, false]) rfl rfl rfl (fun _ _ h => h) (by kernel_rfl) rfl (rp_nilCheck_ad rfl rfl) ?_))
    (first | (refine AN.rp (i := 5) (l' := #[true, true, true, true, true, true, false, false, false, false]) rfl rfl rfl (fun _ _ h => h) (by kernel_rfl) rfl (rp_field_ref Tryd.underlying91 rfl rfl rfl inf88 (by decide) rfl) ?_) | (refine AN.rp (i := 5) (l' := #[true, true, true, true, true, true, false, false, false, false]) rfl rfl rfl (fun _ _ h => h) (by kernel_rfl) rfl (rp_field_ad Tryd.underlying91 rfl rfl rfl inf88 (by decide) rfl) ?_))
    refine AN.br1 (i := 6) (by kernel_rfl) ?_
    refine BR.mk (l' := #[true, true, true, true, true, true, true, false, false, false]) rfl rfl rfl ?_
    (first | (refine ST.st (st_store_map2 inf88 rfl rfl rfl rfl rfl rfl rfl rfl (by first | assumption | omega)) ?_) | (refine ST.st (st_store inf88 rfl rfl rfl rfl rfl rfl rfl (by first | decide | (simp; done)) rfl) ?_))
    (first | (refine AN.rp (i := 7) (l' := #[true, true, true, true, true, true, true, true, false, false]) rfl rfl rfl (fun _ _ h => h) (by kernel_rfl) rfl (rp_nilCheck rfl rfl) ?_) | (refine AN.rp (i := 7) (l' := #[true, true, true, true, true, true, true, true, false, false]) rfl rfl rfl (fun _ _ h => h) (by kernel_rfl) rfl (rp_nilCheck_ad rfl rfl) ?_))
    (first | (refine AN.rp (i := 8) (l' := #[true, true, true, true, true, true, true, true, true, false]) rfl rfl rfl (fun _ _ h => h) (by kernel_rfl) rfl (rp_field_ref Tryd.underlying91 rfl rfl rfl inf89 (by decide) rfl) ?_) | (refine AN.rp (i := 8) (l' := #[true, true, true, true, true, true, true, true, true, false]) rfl rfl rfl (fun _ _ h => h) (by kernel_rfl) rfl (rp_field_ad Tryd.underlying91 rfl rfl rfl inf89 (by decide) rfl) ?_))
    refine AN.br1 (i := 9) (by kernel_rfl) ?_
    refine BR.mk (l' := #[true, true, true, true, true, true, true, true, true, true]) rfl rfl rfl ?_
    (first | (refine ST.st (st_store_map2 inf89 rfl rfl rfl rfl rfl rfl rfl rfl (by first | assumption | omega)) ?_) | (refine ST.st (st_store inf89 rfl rfl rfl rfl rfl rfl rfl (by first | decide | (simp; done)) rfl) ?_))
    refine AN.nil (by kernel_rfl) ?_
    show Less _ _
    (try simp only [S.put, S.newObj, setL, V.cs, List.length_cons, List.length_nil, List.take_succ_cons, List.take_zero, List.drop_succ_cons, List.drop_zero, List.drop_nil, List.nil_append, List.cons_append, List.append_nil, Nat.zero_add, Nat.reduceAdd, List.map_cons, List.map_nil, List.set_cons_zero, List.set_cons_succ])
    try simp only [S.dd, ddL, List.contains_cons, List.contains_nil, Nat.reduceBEq, beq_self_eq_true, Bool.or_false, Bool.or_true, Bool.false_or, Bool.true_or, Bool.or_self, if_true, if_false, Bool.false_eq_true, ↓reduceIte]
    exact (Less.of rfl (by repeat (first | exact trivial | refine ⟨⟨_, rfl, Wk.refl _⟩, ?_⟩)) (by repeat (first | exact trivial | refine ⟨rfl, ?_⟩)) rfl)
  ·refine BR.mk (l' := #[false, true, true, false, false, false, false, false, false, false]) rfl rfl rfl ?_
   (first | (refine ST.sm (sm_makeMap2 true 6 810 811 rfl (by first | rfl | simp [S.clean, S.put, S.newObj, S.forget, V.has, V.hasL, junkIf, setL, V.cs, hasL_i, hasL_vd, hasL_vdt, hasL_d, hasL_b, hasL_s, hasL_n, hasL_rep, hasL_flat, hasL_append, -List.map_set]) rfl rfl rfl) ?_) | (refine ST.sm (sm_makeMap 810 rfl (by first | rfl | simp [S.clean, S.put, S.newObj, S.forget, V.has, V.hasL, junkIf, setL, V.cs, hasL_i, hasL_vd, hasL_vdt, hasL_d, hasL_b, hasL_s, hasL_n, hasL_rep, hasL_flat, hasL_append, -List.map_set]) rfl) ?_))
   try simp only [S.put, List.map_cons, List.map_nil, rowMap, to2_d, to2_ref, to2_own, to2_junk, to2_F, to2_T, List.getElem_toArray, List.getElem_cons_zero, List.getElem_cons_succ, List.set_cons_zero, List.set_cons_succ, Bool.not_true, Bool.not_false, if_true, if_false, Bool.false_eq_true, ↓reduceIte]
   refine AN.br2 (i := 0) (j := 3) (by kernel_rfl) ?_ ?_
   ·refine BR.mk (l' := #[true, true, true, false, false, false, false, false, false, false]) rfl rfl rfl ?_
    (first | (refine ST.rd rfl (rd_load_ref Tryd.underlying75 rfl rfl rfl rfl rfl rfl) ?_) | (refine ST.rd rfl (rd_load_ad Tryd.underlying75 rfl rfl rfl rfl) ?_) | (refine ST.rd rfl (rd_load_map Tryd.underlying75 rfl rfl rfl rfl rfl rfl (by assumption)) ?_) | (refine ST.rd rfl (rd_load_flat Tryd.underlying75 rfl rfl rfl rfl rfl rfl (fun _ => rfl) (by assumption) rfl) ?_))
    (first | (refine AN.rp (i := 4) (l' := #[true, true, true, false, true, false, false, false, false, false]) rfl rfl rfl (fun _ _ h => h) (by kernel_rfl) rfl (rp_nilCheck rfl rfl) ?_) | (refine AN.rp (i := 4) (l' := #[true, true, true, false, true, false, false, false, false, false]) rfl rfl rfl (fun _ _ h => h) (by kernel_rfl) rfl (rp_nilCheck_ad rfl rfl) ?_))
    (first | (refine AN.rp (i := 5) (l' := #[true, true, true, false, true, true, false, false, false, false]) rfl rfl rfl (fun _ _ h => h) (by kernel_rfl) rfl (rp_field_ref Tryd.underlying91 rfl rfl rfl inf88 (by decide) rfl) ?_) | (refine AN.rp (i := 5) (l' := #[true, true, true, false, true, true, false, false, false, false]) rfl rfl rfl (fun _ _ h => h) (by kernel_rfl) rfl (rp_field_ad Tryd.underlying91 rfl rfl rfl inf88 (by decide) rfl) ?_))
    refine AN.br2 (i := 3) (j := 6) (by kernel_rfl) ?_ ?_
    ·refine BR.mk (l' := #[true, true, true, true, true, true, false, false, false, false]) rfl rfl rfl ?_
     (first | (refine ST.sm (sm_makeMap2 false 5 810 811 rfl (by first | rfl | simp [S.clean, S.put, S.newObj, S.forget, V.has, V.hasL, junkIf, setL, V.cs, hasL_i, hasL_vd, hasL_vdt, hasL_d, hasL_b, hasL_s, hasL_n, hasL_rep, hasL_flat, hasL_append, -List.map_set]) rfl rfl rfl) ?_) | (refine ST.sm (sm_makeMap 811 rfl (by first | rfl | simp [S.clean, S.put, S.newObj, S.forget, V.has, V.hasL, junkIf, setL, V.cs, hasL_i, hasL_vd, hasL_vdt, hasL_d, hasL_b, hasL_s, hasL_n, hasL_rep, hasL_flat, hasL_append, -List.map_set]) rfl) ?_))
     try simp only [S.put, List.map_cons, List.map_nil, rowMap, to2_d, to2_ref, to2_own, to2_junk, to2_F, to2_T, List.getElem_toArray, List.getElem_cons_zero, List.getElem_cons_succ, List.set_cons_zero, List.set_cons_succ, Bool.not_true, Bool.not_false, if_true, if_false, Bool.false_eq_true, ↓reduceIte]
     refine AN.br1 (i := 6) (by kernel_rfl) ?_
     refine BR.mk (l' := #[true, true, true, true, true, true, true, false, false, false]) rfl rfl rfl ?_
     (first | (refine ST.st (st_store_map2 inf88 rfl rfl rfl rfl rfl rfl rfl rfl (by first | assumption | omega)) ?_) | (refine ST.st (st_store inf88 rfl rfl rfl rfl rfl rfl rfl (by first | decide | (simp; done)) rfl) ?_))
     (first | (refine AN.rp (i := 7) (l' := #[true, true, true, true, true, true, true, true, false, false]) rfl rfl rfl (fun _ _ h => h) (by kernel_rfl) rfl (rp_nilCheck rfl rfl) ?_) | (refine AN.rp (i := 7) (l' := #[true, true, true, true, true, true, true, true, false, false]) rfl rfl rfl (fun _ _ h => h) (by kernel_rfl) rfl (rp_nilCheck_ad rfl rfl) ?_))
     (first | (refine AN.rp (i := 8) (l' := #[true, true, true, true, true, true, true, true, true, false]) rfl rfl rfl (fun _ _ h => h) (by kernel_rfl) rfl (rp_field_ref Tryd.underlying91 rfl rfl rfl inf89 (by decide) rfl) ?_) | (refine AN.rp (i := 8) (l' := #[true, true, true, true, true, true, true, true, true, false]) rfl rfl rfl (fun _ _ h => h) (by kernel_rfl) rfl (rp_field_ad Tryd.underlying91 rfl rfl rfl inf89 (by decide) rfl) ?_))
     refine AN.br1 (i := 9) (by kernel_rfl) ?_
     refine BR.mk (l' := #[true, true, true, true, true, true, true, true, true, true]) rfl rfl rfl ?_
     (first | (refine ST.st (st_store_map2 inf89 rfl rfl rfl rfl rfl rfl rfl rfl (by first | assumption | omega)) ?_) | (refine ST.st (st_store inf89 rfl rfl rfl rfl rfl rfl rfl (by first | decide | (simp; done)) rfl) ?_))
     refine AN.nil (by kernel_rfl) ?_
     show Less _ _
     (try simp only [S.put, S.newObj, setL, V.cs, List.length_cons, List.length_nil, List.take_succ_cons, List.take_zero, List.drop_succ_cons, List.drop_zero, List.drop_nil, List.nil_append, List.cons_append, List.append_nil, Nat.zero_add, Nat.reduceAdd, List.map_cons, List.map_nil, List.set_cons_zero, List.set_cons_succ])
     try simp only [S.dd, ddL, List.contains_cons, List.contains_nil, Nat.reduceBEq, beq_self_eq_true, Bool.or_false, Bool.or_true, Bool.false_or, Bool.true_or, Bool.or_self, if_true, if_false, Bool.false_eq_true, ↓reduceIte]
     exact (Less.of rfl (by repeat (first | exact trivial | refine ⟨⟨_, rfl, Wk.refl _⟩, ?_⟩)) (by repeat (first | exact trivial | refine ⟨rfl, ?_⟩)) rfl)
    ·refine BR.mk (l' := #[true, true, true, false, true, true, true, false, false, false]) rfl rfl rfl ?_
     (first | (refine ST.st (st_store_map2 inf88 rfl rfl rfl rfl rfl rfl rfl rfl (by first | assumption | omega)) ?_) | (refine ST.st (st_store inf88 rfl rfl rfl rfl rfl rfl rfl (by first | decide | (simp; done)) rfl) ?_))
     refine AN.br1 (i := 3) (by kernel_rfl) ?_
     refine BR.mk (l' := #[true, true, true, true, true, true, true, false, false, false]) rfl rfl rfl ?_
     (first | (refine ST.sm (sm_makeMap2 false 5 810 811 rfl (by first | rfl | simp [S.clean, S.put, S.newObj, S.forget, V.has, V.hasL, junkIf, setL, V.cs, hasL_i, hasL_vd, hasL_vdt, hasL_d, hasL_b, hasL_s, hasL_n, hasL_rep, hasL_flat, hasL_append, -List.map_set]) rfl rfl rfl) ?_) | (refine ST.sm (sm_makeMap 811 rfl (by first | rfl | simp [S.clean, S.put, S.newObj, S.forget, V.has, V.hasL, junkIf, setL, V.cs, hasL_i, hasL_vd, hasL_vdt, hasL_d, hasL_b, hasL_s, hasL_n, hasL_rep, hasL_flat, hasL_append, -List.map_set]) rfl) ?_))
     try simp only [S.put, List.map_cons, List.map_nil, rowMap, to2_d, to2_ref, to2_own, to2_junk, to2_F, to2_T, List.getElem_toArray, List.getElem_cons_zero, List.getElem_cons_succ, List.set_cons_zero, List.set_cons_succ, Bool.not_true, Bool.not_false, if_true, if_false, Bool.false_eq_true, ↓reduceIte]
     (first | (refine AN.rp (i := 7) (l' := #[true, true, true, true, true, true, true, true, false, false]) rfl rfl rfl (fun _ _ h => h) (by kernel_rfl) rfl (rp_nilCheck rfl rfl) ?_) | (refine AN.rp (i := 7) (l' := #[true, true, true, true, true, true, true, true, false, false]) rfl rfl rfl (fun _ _ h => h) (by kernel_rfl) rfl (rp_nilCheck_ad rfl rfl) ?_))
     (first | (refine AN.rp (i := 8) (l' := #[true, true, true, true, true, true, true, true, true, false]) rfl rfl rfl (fun _ _ h => h) (by kernel_rfl) rfl (rp_field_ref Tryd.underlying91 rfl rfl rfl inf89 (by decide) rfl) ?_) | (refine AN.rp (i := 8) (l' := #[true, true, true, true, true, true, true, true, true, false]) rfl rfl rfl (fun _ _ h => h) (by kernel_rfl) rfl (rp_field_ad Tryd.underlying91 rfl rfl rfl inf89 (by decide) rfl) ?_))
     refine AN.br1 (i := 9) (by kernel_rfl) ?_
     refine BR.mk (l' := #[true, true, true, true, true, true, true, true, true, true]) rfl rfl rfl ?_
     (first | (refine ST.st (st_store_map2 inf89 rfl rfl rfl rfl rfl rfl rfl rfl (by first | assumption | omega)) ?_) | (refine ST.st (st_store inf89 rfl rfl rfl rfl rfl rfl rfl (by first | decide | (simp; done)) rfl) ?_))
     refine AN.nil (by kernel_rfl) ?_
     show Less _ _
     (try simp only [S.put, S.newObj, setL, V.cs, List.length_cons, List.length_nil, List.take_succ_cons, List.take_zero, List.drop_succ_cons, List.drop_zero, List.drop_nil, List.nil_append, List.cons_append, List.append_nil, Nat.zero_add, Nat.reduceAdd, List.map_cons, List.map_nil, List.set_cons_zero, List.set_cons_succ])
     try simp only [S.dd, ddL, List.contains_cons, List.contains_nil, Nat.reduceBEq, beq_self_eq_true, Bool.or_false, Bool.or_true, Bool.false_or, Bool.true_or, Bool.or_self, if_true, if_false, Bool.false_eq_true, ↓reduceIte]
     exact (Less.of rfl (by repeat (first | exact trivial | refine ⟨⟨_, rfl, Wk.refl _⟩, ?_⟩)) (by repeat (first | exact trivial | refine ⟨rfl, ?_⟩)) rfl)
   ·refine BR.mk (l' := #[false, true, true, true, false, false, false, false, false, false]) rfl rfl rfl ?_
    (first | (refine ST.sm (sm_makeMap2 false 5 810 811 rfl (by first | rfl | simp [S.clean, S.put, S.newObj, S.forget, V.has, V.hasL, junkIf, setL, V.cs, hasL_i, hasL_vd, hasL_vdt, hasL_d, hasL_b, hasL_s, hasL_n, hasL_rep, hasL_flat, hasL_append, -List.map_set]) rfl rfl rfl) ?_) | (refine ST.sm (sm_makeMap 811 rfl (by first | rfl | simp [S.clean, S.put, S.newObj, S.forget, V.has, V.hasL, junkIf, setL, V.cs, hasL_i, hasL_vd, hasL_vdt, hasL_d, hasL_b, hasL_s, hasL_n, hasL_rep, hasL_flat, hasL_append, -List.map_set]) rfl) ?_))
    try simp only [S.put, List.map_cons, List.map_nil, rowMap, to2_d, to2_ref, to2_own, to2_junk, to2_F, to2_T, List.getElem_toArray, List.getElem_cons_zero, List.getElem_cons_succ, List.set_cons_zero, List.set_cons_succ, Bool.not_true, Bool.not_false, if_true, if_false, Bool.false_eq_true, ↓reduceIte]
    refine AN.br1 (i := 0) (by kernel_rfl) ?_
    refine BR.mk (l' := #[true, true, true, true, false, false, false, false, false, false]) rfl rfl rfl ?_
    (first | (refine ST.rd rfl (rd_load_ref Tryd.underlying75 rfl rfl rfl rfl rfl rfl) ?_) | (refine ST.rd rfl (rd_load_ad Tryd.underlying75 rfl rfl rfl rfl) ?_) | (refine ST.rd rfl (rd_load_map Tryd.underlying75 rfl rfl rfl rfl rfl rfl (by assumption)) ?_) | (refine ST.rd rfl (rd_load_flat Tryd.underlying75 rfl rfl rfl rfl rfl rfl (fun _ => rfl) (by assumption) rfl) ?_))
    (first | (refine AN.rp (i := 4) (l' := #[true, true, true, true, true, false, false, false, false, false]) rfl rfl rfl (fun _ _ h => h) (by kernel_rfl) rfl (rp_nilCheck rfl rfl) ?_) | (refine AN.rp (i := 4) (l' := #[true, true, true, true, true, false, false, false, false, false]) rfl rfl rfl (fun _ _ h => h) (by kernel_rfl) rfl (rp_nilCheck_ad rfl rfl) ?_))
    (first | (refine AN.rp (i := 5) (l' := #[true, true, true, true, true, true, false, false, false, false]) rfl rfl rfl (fun _ _ h => h) (by kernel_rfl) rfl (rp_field_ref Tryd.underlying91 rfl rfl rfl inf88 (by decide) rfl) ?_) | (refine AN.rp (i := 5) (l' := #[true, true, true, true, true, true, false, false, false, false]) rfl rfl rfl (fun _ _ h => h) (by kernel_rfl) rfl (rp_field_ad Tryd.underlying91 rfl rfl rfl inf88 (by decide) rfl) ?_))
    refine AN.br1 (i := 6) (by kernel_rfl) ?_
    refine BR.mk (l' := #[true, true, true, true, true, true, true, false, false, false]) rfl rfl rfl ?_
    (first | (refine ST.st (st_store_map2 inf88 rfl rfl rfl rfl rfl rfl rfl rfl (by first | assumption | omega)) ?_) | (refine ST.st (st_store inf88 rfl rfl rfl rfl rfl rfl rfl (by first | decide | (simp; done)) rfl) ?_))
    (first | (refine AN.rp (i := 7) (l' := #[true, true, true, true, true, true, true, true, false, false]) rfl rfl rfl (fun _ _ h => h) (by kernel_rfl) rfl (rp_nilCheck rfl rfl) ?_) | (refine AN.rp (i := 7) (l' := #[true, true, true, true, true, true, true, true, false, false]) rfl rfl rfl (fun _ _ h => h) (by kernel_rfl) rfl (rp_nilCheck_ad rfl rfl) ?_))
    (first | (refine AN.rp (i := 8) (l' := #[true, true, true, true, true, true, true, true, true, false]) rfl rfl rfl (fun _ _ h => h) (by kernel_rfl) rfl (rp_field_ref Tryd.underlying91 rfl rfl rfl inf89 (by decide) rfl) ?_) | (refine AN.rp (i := 8) (l' := #[true, true, true, true, true, true, true, true, true, false]) rfl rfl rfl (fun _ _ h => h) (by kernel_rfl) rfl (rp_field_ad Tryd.underlying91 rfl rfl rfl inf89 (by decide) rfl) ?_))
    refine AN.br1 (i := 9) (by kernel_rfl) ?_
    refine BR.mk (l' := #[true, true, true, true, true, true, true, true, true, true]) rfl rfl rfl ?_
    (first | (refine ST.st (st_store_map2 inf89 rfl rfl rfl rfl rfl rfl rfl rfl (by first | assumption | omega)) ?_) | (refine ST.st (st_store inf89 rfl rfl rfl rfl rfl rfl rfl (by first | decide | (simp; done)) rfl) ?_))
    refine AN.nil (by kernel_rfl) ?_
    show Less _ _
    (try simp only [S.put, S.newObj, setL, V.cs, List.length_cons, List.length_nil, List.take_succ_cons, List.take_zero, List.drop_succ_cons, List.drop_zero, List.drop_nil, List.nil_append, List.cons_append, List.append_nil, Nat.zero_add, Nat.reduceAdd, List.map_cons, List.map_nil, List.set_cons_zero, List.set_cons_succ])
    try simp only [S.dd, ddL, List.contains_cons, List.contains_nil, Nat.reduceBEq, beq_self_eq_true, Bool.or_false, Bool.or_true, Bool.false_or, Bool.true_or, Bool.or_self, if_true, if_false, Bool.false_eq_true, ↓reduceIte]
    exact (Less.of rfl (by repeat (first | exact trivial | refine ⟨⟨_, rfl, Wk.refl _⟩, ?_⟩)) (by repeat (first | exact trivial | refine ⟨rfl, ?_⟩)) rfl)
  ·refine BR.mk (l' := #[false, true, false, true, false, false, false, false, false, false]) rfl rfl rfl ?_
   (first | (refine ST.sm (sm_makeMap2 false 5 810 811 rfl (by first | rfl | simp [S.clean, S.put, S.newObj, S.forget, V.has, V.hasL, junkIf, setL, V.cs, hasL_i, hasL_vd, hasL_vdt, hasL_d, hasL_b, hasL_s, hasL_n, hasL_rep, hasL_flat, hasL_append, -List.map_set]) rfl rfl rfl) ?_) | (refine ST.sm (sm_makeMap 811 rfl (by first | rfl | simp [S.clean, S.put, S.newObj, S.forget, V.has, V.hasL, junkIf, setL, V.cs, hasL_i, hasL_vd, hasL_vdt, hasL_d, hasL_b, hasL_s, hasL_n, hasL_rep, hasL_flat, hasL_append, -List.map_set]) rfl) ?_))
   try simp only [S.put, List.map_cons, List.map_nil, rowMap, to2_d, to2_ref, to2_own, to2_junk, to2_F, to2_T, List.getElem_toArray, List.getElem_cons_zero, List.getElem_cons_succ, List.set_cons_zero, List.set_cons_succ, Bool.not_true, Bool.not_false, if_true, if_false, Bool.false_eq_true, ↓reduceIte]
   refine AN.br2 (i := 0) (j := 2) (by kernel_rfl) ?_ ?_
   ·refine BR.mk (l' := #[true, true, false, true, false, false, false, false, false, false]) rfl rfl rfl ?_
    (first | (refine ST.rd rfl (rd_load_ref Tryd.underlying75 rfl rfl rfl rfl rfl rfl) ?_) | (refine ST.rd rfl (rd_load_ad Tryd.underlying75 rfl rfl rfl rfl) ?_) | (refine ST.rd rfl (rd_load_map Tryd.underlying75 rfl rfl rfl rfl rfl rfl (by assumption)) ?_) | (refine ST.rd rfl (rd_load_flat Tryd.underlying75 rfl rfl rfl rfl rfl rfl (fun _ => rfl) (by assumption) rfl) ?_))
    refine AN.br1 (i := 2) (by kernel_rfl) ?_
    refine BR.mk (l' := #[true, true, true, true, false, false, false, false, false, false]) rfl rfl rfl ?_
    (first | (refine ST.sm (sm_makeMap2 true 6 810 811 rfl (by first | rfl | simp [S.clean, S.put, S.newObj, S.forget, V.has, V.hasL, junkIf, setL, V.cs, hasL_i, hasL_vd, hasL_vdt, hasL_d, hasL_b, hasL_s, hasL_n, hasL_rep, hasL_flat, hasL_append, -List.map_set]) rfl rfl rfl) ?_) | (refine ST.sm (sm_makeMap 810 rfl (by first | rfl | simp [S.clean, S.put, S.newObj, S.forget, V.has, V.hasL, junkIf, setL, V.cs, hasL_i, hasL_vd, hasL_vdt, hasL_d, hasL_b, hasL_s, hasL_n, hasL_rep, hasL_flat, hasL_append, -List.map_set]) rfl) ?_))
    try simp only [S.put, List.map_cons, List.map_nil, rowMap, to2_d, to2_ref, to2_own, to2_junk, to2_F, to2_T, List.getElem_toArray, List.getElem_cons_zero, List.getElem_cons_succ, List.set_cons_zero, List.set_cons_succ, Bool.not_true, Bool.not_false, if_true, if_false, Bool.false_eq_true, ↓reduceIte]
    (first | (refine AN.rp (i := 4) (l' := #[true, true, true, true, true, false, false, false, false, false]) rfl rfl rfl (fun _ _ h => h) (by kernel_rfl) rfl (rp_nilCheck rfl rfl) ?_) | (refine AN.rp (i := 4) (l' := #[true, true, true, true, true, false, false, false, false, false]) rfl rfl rfl (fun _ _ h => h) (by kernel_rfl) rfl (rp_nilCheck_ad rfl rfl) ?_))
    (first | (refine AN.rp (i := 5) (l' := #[true, true, true, true, true, true, false, false, false, false]) rfl rfl rfl (fun _ _ h => h) (by kernel_rfl) rfl (rp_field_ref Tryd.underlying91 rfl rfl rfl inf88 (by decide) rfl) ?_) | (refine AN.rp (i := 5) (l' := #[true, true, true, true, true, true, false, false, false, false]) rfl rfl rfl (fun _ _ h => h) (by kernel_rfl) rfl (rp_field_ad Tryd.underlying91 rfl rfl rfl inf88 (by decide) rfl) ?_))
    refine AN.br1 (i := 6) (by kernel_rfl) ?_
    refine BR.mk (l' := #[true, true, true, true, true, true, true, false, false, false]) rfl rfl rfl ?_
    (first | (refine ST.st (st_store_map2 inf88 rfl rfl rfl rfl rfl rfl rfl rfl (by first | assumption | omega)) ?_) | (refine ST.st (st_store inf88 rfl rfl rfl rfl rfl rfl rfl (by first | decide | (simp; done)) rfl) ?_))
    (first | (refine AN.rp (i := 7) (l' := #[true, true, true, true, true, true, true, true, false, false]) rfl rfl rfl (fun _ _ h => h) (by kernel_rfl) rfl (rp_nilCheck rfl rfl) ?_) | (refine AN.rp (i := 7) (l' := #[true, true, true, true, true, true, true, true, false, false]) rfl rfl rfl (fun _ _ h => h) (by kernel_rfl) rfl (rp_nilCheck_ad rfl rfl) ?_))
    (first | (refine AN.rp (i := 8) (l' := #[true, true, true, true, true, true, true, true, true, false]) rfl rfl rfl (fun _ _ h => h) (by kernel_rfl) rfl (rp_field_ref Tryd.underlying91 rfl rfl rfl inf89 (by decide) rfl) ?_) | (refine AN.rp (i := 8) (l' := #[true, true, true, true, true, true, true, true, true, false]) rfl rfl rfl (fun _ _ h => h) (by kernel_rfl) rfl (rp_field_ad Tryd.underlying91 rfl rfl rfl inf89 (by decide) rfl) ?_))
    refine AN.br1 (i := 9) (by kernel_rfl) ?_
    refine BR.mk (l' := #[true, true, true, true, true, true, true, true, true, true]) rfl rfl rfl ?_
    (first | (refine ST.st (st_store_map2 inf89 rfl rfl rfl rfl rfl rfl rfl rfl (by first | assumption | omega)) ?_) | (refine ST.st (st_store inf89 rfl rfl rfl rfl rfl rfl rfl (by first | decide | (simp; done)) rfl) ?_))
    refine AN.nil (by kernel_rfl) ?_
    show Less _ _
    (try simp only [S.put, S.newObj, setL, V.cs, List.length_cons, List.length_nil, List.take_succ_cons, List.take_zero, List.drop_succ_cons, List.drop_zero, List.drop_nil, List.nil_append, List.cons_append, List.append_nil, Nat.zero_add, Nat.reduceAdd, List.map_cons, List.map_nil, List.set_cons_zero, List.set_cons_succ])
    try simp only [S.dd, ddL, List.contains_cons, List.contains_nil, Nat.reduceBEq, beq_self_eq_true, Bool.or_false, Bool.or_true, Bool.false_or, Bool.true_or, Bool.or_self, if_true, if_false, Bool.false_eq_true, ↓reduceIte]
    exact (Less.of rfl (by repeat (first | exact trivial | refine ⟨⟨_, rfl, Wk.refl _⟩, ?_⟩)) (by repeat (first | exact trivial | refine ⟨rfl, ?_⟩)) rfl)
   ·refine BR.mk (l' := #[false, true, true, true, false, false, false, false, false, false]) rfl rfl rfl ?_
    (first | (refine ST.sm (sm_makeMap2 true 6 810 811 rfl (by first | rfl | simp [S.clean, S.put, S.newObj, S.forget, V.has, V.hasL, junkIf, setL, V.cs, hasL_i, hasL_vd, hasL_vdt, hasL_d, hasL_b, hasL_s, hasL_n, hasL_rep, hasL_flat, hasL_append, -List.map_set]) rfl rfl rfl) ?_) | (refine ST.sm (sm_makeMap 810 rfl (by first | rfl | simp [S.clean, S.put, S.newObj, S.forget, V.has, V.hasL, junkIf, setL, V.cs, hasL_i, hasL_vd, hasL_vdt, hasL_d, hasL_b, hasL_s, hasL_n, hasL_rep, hasL_flat, hasL_append, -List.map_set]) rfl) ?_))
    try simp only [S.put, List.map_cons, List.map_nil, rowMap, to2_d, to2_ref, to2_own, to2_junk, to2_F, to2_T, List.getElem_toArray, List.getElem_cons_zero, List.getElem_cons_succ, List.set_cons_zero, List.set_cons_succ, Bool.not_true, Bool.not_false, if_true, if_false, Bool.false_eq_true, ↓reduceIte]
    refine AN.br1 (i := 0) (by kernel_rfl) ?_
    refine BR.mk (l' := #[true, true, true, true, false, false, false, false, false, false]) rfl rfl rfl ?_
    (first | (refine ST.rd rfl (rd_load_ref Tryd.underlying75 rfl rfl rfl rfl rfl rfl) ?_) | (refine ST.rd rfl (rd_load_ad Tryd.underlying75 rfl rfl rfl rfl) ?_) | (refine ST.rd rfl (rd_load_map Tryd.underlying75 rfl rfl rfl rfl rfl rfl (by assumption)) ?_) | (refine ST.rd rfl (rd_load_flat Tryd.underlying75 rfl rfl rfl rfl rfl rfl (fun _ => rfl) (by assumption) rfl) ?_))
    (first | (refine AN.rp (i := 4) (l' := #[true, true, true, true, true, false, false, false, false, false]) rfl rfl rfl (fun _ _ h => h) (by kernel_rfl) rfl (rp_nilCheck rfl rfl) ?_) | (refine AN.rp (i := 4) (l' := #[true, true, true, true, true, false, false, false, false, false]) rfl rfl rfl (fun _ _ h => h) (by kernel_rfl) rfl (rp_nilCheck_ad rfl rfl) ?_))
    (first | (refine AN.rp (i := 5) (l' := #[true, true, true, true, true, true, false, false, false, false]) rfl rfl rfl (fun _ _ h => h) (by kernel_rfl) rfl (rp_field_ref Tryd.underlying91 rfl rfl rfl inf88 (by decide) rfl) ?_) | (refine AN.rp (i := 5) (l' := #[true, true, true, true, true, true, false, false, false, false]) rfl rfl rfl (fun _ _ h => h) (by kernel_rfl) rfl (rp_field_ad Tryd.underlying91 rfl rfl rfl inf88 (by decide) rfl) ?_))
    refine AN.br1 (i := 6) (by kernel_rfl) ?_
    refine BR.mk (l' := #[true, true, true, true, true, true, true, false, false, false]) rfl rfl rfl ?_
    (first | (refine ST.st (st_store_map2 inf88 rfl rfl rfl rfl rfl rfl rfl rfl (by first | assumption | omega)) ?_) | (refine ST.st (st_store inf88 rfl rfl rfl rfl rfl rfl rfl (by first | decide | (simp; done)) rfl) ?_))
    (first | (refine AN.rp (i := 7) (l' := #[true, true, true, true, true, true, true, true, false, false]) rfl rfl rfl (fun _ _ h => h) (by kernel_rfl) rfl (rp_nilCheck rfl rfl) ?_) | (refine AN.rp (i := 7) (l' := #[true, true, true, true, true, true, true, true, false, false]) rfl rfl rfl (fun _ _ h => h) (by kernel_rfl) rfl (rp_nilCheck_ad rfl rfl) ?_))
    (first | (refine AN.rp (i := 8) (l' := #[true, true, true, true, true, true, true, true, true, false]) rfl rfl rfl (fun _ _ h => h) (by kernel_rfl) rfl (rp_field_ref Tryd.underlying91 rfl rfl rfl inf89 (by decide) rfl) ?_) | (refine AN.rp (i := 8) (l' := #[true, true, true, true, true, true, true, true, true, false]) rfl rfl rfl (fun _ _ h => h) (by kernel_rfl) rfl (rp_field_ad Tryd.underlying91 rfl rfl rfl inf89 (by decide) rfl) ?_))
    refine AN.br1 (i := 9) (by kernel_rfl) ?_
    refine BR.mk (l' := #[true, true, true, true, true, true, true, true, true, true]) rfl rfl rfl ?_
    (first | (refine ST.st (st_store_map2 inf89 rfl rfl rfl rfl rfl rfl rfl rfl (by first | assumption | omega)) ?_) | (refine ST.st (st_store inf89 rfl rfl rfl rfl rfl rfl rfl (by first | decide | (simp; done)) rfl) ?_))
    refine AN.nil (by kernel_rfl) ?_
    show Less _ _
    (try simp only [S.put, S.newObj, setL, V.cs, List.length_cons, List.length_nil, List.take_succ_cons, List.take_zero, List.drop_succ_cons, List.drop_zero, List.drop_nil, List.nil_append, List.cons_append, List.append_nil, Nat.zero_add, Nat.reduceAdd, List.map_cons, List.map_nil, List.set_cons_zero, List.set_cons_succ])
    try simp only [S.dd, ddL, List.contains_cons, List.contains_nil, Nat.reduceBEq, beq_self_eq_true, Bool.or_false, Bool.or_true, Bool.false_or, Bool.true_or, Bool.or_self, if_true, if_false, Bool.false_eq_true, ↓reduceIte]
    exact (Less.of rfl (by repeat (first | exact trivial | refine ⟨⟨_, rfl, Wk.refl _⟩, ?_⟩)) (by repeat (first | exact trivial | refine ⟨rfl, ?_⟩)) rfl)
 ·refine BR.mk (l' := #[false, false, true, false, false, false, false, false, false, false]) rfl rfl rfl ?_
  (first | (refine ST.sm (sm_makeMap2 true 6 810 811 rfl (by first | rfl | simp [S.clean, S.put, S.newObj, S.forget, V.has, V.hasL, junkIf, setL, V.cs, hasL_i, hasL_vd, hasL_vdt, hasL_d, hasL_b, hasL_s, hasL_n, hasL_rep, hasL_flat, hasL_append, -List.map_set]) rfl rfl rfl) ?_) | (refine ST.sm (sm_makeMap 810 rfl (by first | rfl | simp [S.clean, S.put, S.newObj, S.forget, V.has, V.hasL, junkIf, setL, V.cs, hasL_i, hasL_vd, hasL_vdt, hasL_d, hasL_b, hasL_s, hasL_n, hasL_rep, hasL_flat, hasL_append, -List.map_set]) rfl) ?_))
  try simp only [S.put, List.map_cons, List.map_nil, rowMap, to2_d, to2_ref, to2_own, to2_junk, to2_F, to2_T, List.getElem_toArray, List.getElem_cons_zero, List.getElem_cons_succ, List.set_cons_zero, List.set_cons_succ, Bool.not_true, Bool.not_false, if_true, if_false, Bool.false_eq_true, ↓reduceIte]
  refine AN.br3 (i := 0) (j := 1) (k := 3) (by kernel_rfl) ?_ ?_ ?_
  ·refine BR.mk (l' := #[true, false, true, false, false, false, false, false, false, false]) rfl rfl rfl ?_
   (first | (refine ST.rd rfl (rd_load_ref Tryd.underlying75 rfl rfl rfl rfl rfl rfl) ?_) | (refine ST.rd rfl (rd_load_ad Tryd.underlying75 rfl rfl rfl rfl) ?_) | (refine ST.rd rfl (rd_load_map Tryd.underlying75 rfl rfl rfl rfl rfl rfl (by assumption)) ?_) | (refine ST.rd rfl (rd_load_flat Tryd.underlying75 rfl rfl rfl rfl rfl rfl (fun _ => rfl) (by assumption) rfl) ?_))
   (first | (refine AN.rp (i := 4) (l' := #[true, false, true, false, true, false, false, false, false, false]) rfl rfl rfl (fun _ _ h => h) (by kernel_rfl) rfl (rp_nilCheck rfl rfl) ?_) | (refine AN.rp (i := 4) (l' := #[true, false, true, false, true, false, false, false, false, false]) rfl rfl rfl (fun _ _ h => h) (by kernel_rfl) rfl (rp_nilCheck_ad rfl rfl) ?_))
   (first | (refine AN.rp (i := 5) (l' := #[true, false, true, false, true, true, false, false, false, false]) rfl rfl rfl (fun _ _ h => h) (by kernel_rfl) rfl (rp_field_ref Tryd.underlying91 rfl rfl rfl inf88 (by decide) rfl) ?_) | (refine AN.rp (i := 5) (l' := #[true, false, true, false, true, true, false, false, false, false]) rfl rfl rfl (fun _ _ h => h) (by kernel_rfl) rfl (rp_field_ad Tryd.underlying91 rfl rfl rfl inf88 (by decide) rfl) ?_))
   refine AN.br3 (i := 1) (j := 3) (k := 6) (by kernel_rfl) ?_ ?_ ?_
   ·refine BR.mk (l' := #[true, true, true, false, true, true, false, false, false, false]) rfl rfl rfl ?_
    (first | (refine ST.rd rfl (rd_load_ref Tryd.underlying75 rfl rfl rfl rfl rfl rfl) ?_) | (refine ST.rd rfl (rd_load_ad Tryd.underlying75 rfl rfl rfl rfl) ?_) | (refine ST.rd rfl (rd_load_map Tryd.underlying75 rfl rfl rfl rfl rfl rfl (by assumption)) ?_) | (refine ST.rd rfl (rd_load_flat Tryd.underlying75 rfl rfl rfl rfl rfl rfl (fun _ => rfl) (by assumption) rfl) ?_))
    refine AN.br2 (i := 3) (j := 6) (by kernel_rfl) ?_ ?_
    ·refine BR.mk (l' := #[true, true, true, true, true, true, false, false, false, false]) rfl rfl rfl ?_
     (first | (refine ST.sm (sm_makeMap2 false 5 810 811 rfl (by first | rfl | simp [S.clean, S.put, S.newObj, S.forget, V.has, V.hasL, junkIf, setL, V.cs, hasL_i, hasL_vd, hasL_vdt, hasL_d, hasL_b, hasL_s, hasL_n, hasL_rep, hasL_flat, hasL_append, -List.map_set]) rfl rfl rfl) ?_) | (refine ST.sm (sm_makeMap 811 rfl (by first | rfl | simp [S.clean, S.put, S.newObj, S.forget, V.has, V.hasL, junkIf, setL, V.cs, hasL_i, hasL_vd, hasL_vdt, hasL_d, hasL_b, hasL_s, hasL_n, hasL_rep, hasL_flat, hasL_append, -List.map_set]) rfl) ?_))
     try simp only [S.put, List.map_cons, List.map_nil, rowMap, to2_d, to2_ref, to2_own, to2_junk, to2_F, to2_T, List.getElem_toArray, List.getElem_cons_zero, List.getElem_cons_succ, List.set_cons_zero, List.set_cons_succ, Bool.not_true, Bool.not_false, if_true, if_false, Bool.false_eq_true, ↓reduceIte]
     refine AN.br1 (i := 6) (by kernel_rfl) ?_
     refine BR.mk (l' := #[true, true, true, true, true, true, true, false, false, false]) rfl rfl rfl ?_
     (first | (refine ST.st (st_store_map2 inf88 rfl rfl rfl rfl rfl rfl rfl rfl (by first | assumption | omega)) ?_) | (refine ST.st (st_store inf88 rfl rfl rfl rfl rfl rfl rfl (by first | decide | (simp; done)) rfl) ?_))
     (first | (refine AN.rp (i := 7) (l' := #[true, true, true, true, true, true, true, true, false, false]) rfl rfl rfl (fun _ _ h => h) (by kernel_rfl) rfl (rp_nilCheck rfl rfl) ?_) | (refine AN.rp (i := 7) (l' := #[true, true, true, true, true, true, true, true, false, false]) rfl rfl rfl (fun _ _ h => h) (by kernel_rfl) rfl (rp_nilCheck_ad rfl rfl) ?_))
     (first | (refine AN.rp (i := 8) (l' := #[true, true, true, true, true, true, true, true, true, false]) rfl rfl rfl (fun _ _ h => h) (by kernel_rfl) rfl (rp_field_ref Tryd.underlying91 rfl rfl rfl inf89 (by decide) rfl) ?_) | (refine AN.rp (i := 8) (l' := #[true, true, true, true, true, true, true, true, true, false]) rfl rfl rfl (fun _ _ h => h) (by kernel_rfl) rfl (rp_field_ad Tryd.underlying91 rfl rfl rfl inf89 (by decide) rfl) ?_))
     refine AN.br1 (i := 9) (by kernel_rfl) ?_
     refine BR.mk (l' := #[true, true, true, true, true, true, true, true, true, true]) rfl rfl rfl ?_
     (first | (refine ST.st (st_store_map2 inf89 rfl rfl rfl rfl rfl rfl rfl rfl (by first | assumption | omega)) ?_) | (refine ST.st (st_store inf89 rfl rfl rfl rfl rfl rfl rfl (by first | decide | (simp; done)) rfl) ?_))
     refine AN.nil (by kernel_rfl) ?_
     show Less _ _
     (try simp only [S.put, S.newObj, setL, V.cs, List.length_cons, List.length_nil, List.take_succ_cons, List.take_zero, List.drop_succ_cons, List.drop_zero, List.drop_nil, List.nil_append, List.cons_append, List.append_nil, Nat.zero_add, Nat.reduceAdd, List.map_cons, List.map_nil, List.set_cons_zero, List.set_cons_succ])
     try simp only [S.dd, ddL, List.contains_cons, List.contains_nil, Nat.reduceBEq, beq_self_eq_true, Bool.or_false, Bool.or_true, Bool.false_or, Bool.true_or, Bool.or_self, if_true, if_false, Bool.false_eq_true, ↓reduceIte]
     exact (Less.of rfl (by repeat (first | exact trivial | refine ⟨⟨_, rfl, Wk.refl _⟩, ?_⟩)) (by repeat (first | exact trivial | refine ⟨rfl, ?_⟩)) rfl)
    ·refine BR.mk (l' := #[true, true, true, false, true, true, true, false, false, false]) rfl rfl rfl ?_
     (first | (refine ST.st (st_store_map2 inf88 rfl rfl rfl rfl rfl rfl rfl rfl (by first | assumption | omega)) ?_) | (refine ST.st (st_store inf88 rfl rfl rfl rfl rfl rfl rfl (by first | decide | (simp; done)) rfl) ?_))
     refine AN.br1 (i := 3) (by kernel_rfl) ?_
     refine BR.mk (l' := #[true, true, true, true, true, true, true, false, false, false]) rfl rfl rfl ?_
     (first | (refine ST.sm (sm_makeMap2 false 5 810 811 rfl (by first | rfl | simp [S.clean, S.put, S.newObj, S.forget, V.has, V.hasL, junkIf, setL, V.cs, hasL_i, hasL_vd, hasL_vdt, hasL_d, hasL_b, hasL_s, hasL_n, hasL_rep, hasL_flat, hasL_append, -List.map_set]) rfl rfl rfl) ?_) | (refine ST.sm (sm_makeMap 811 rfl (by first | rfl | simp [S.clean, S.put, S.newObj, S.forget, V.has, V.hasL, junkIf, setL, V.cs, hasL_i, hasL_vd, hasL_vdt, hasL_d, hasL_b, hasL_s, hasL_n, hasL_rep, hasL_flat, hasL_append, -List.map_set]) rfl) ?_))
     try simp only [S.put, List.map_cons, List.map_nil, rowMap, to2_d, to2_ref, to2_own, to2_junk, to2_F, to2_T, List.getElem_toArray, List.getElem_cons_zero, List.getElem_cons_succ, List.set_cons_zero, List.set_cons_succ, Bool.not_true, Bool.not_false, if_true, if_false, Bool.false_eq_true, ↓reduceIte]
     (first | (refine AN.rp (i := 7) (l' := #[true, true, true, true, true, true, true, true, false, false]) rfl rfl rfl (fun _ _ h => h) (by kernel_rfl) rfl (rp_nilCheck rfl rfl) ?_) | (refine AN.rp (i := 7) (l' := #[true, true, true, true, true, true, true, true, false, false]) rfl rfl rfl (fun _ _ h => h) (by kernel_rfl) rfl (rp_nilCheck_ad rfl rfl) ?_))
     (first | (refine AN.rp (i := 8) (l' := #[true, true, true, true, true, true, true, true, true, false]) rfl rfl rfl (fun _ _ h => h) (by kernel_rfl) rfl (rp_field_ref Tryd.underlying91 rfl rfl rfl inf89 (by decide) rfl) ?_) | (refine AN.rp (i := 8) (l' := #[true, true, true, true, true, true, true, true, true, false]) rfl rfl rfl (fun _ _ h => h) (by kernel_rfl) rfl (rp_field_ad Tryd.underlying91 rfl rfl rfl inf89 (by decide) rfl) ?_))
     refine AN.br1 (i := 9) (by kernel_rfl) ?_
     refine BR.mk (l' := #[true, true, true, true, true, true, true, true, true, true]) rfl rfl rfl ?_
     (first | (refine ST.st (st_store_map2 inf89 rfl rfl rfl rfl rfl rfl rfl rfl (by first | assumption | omega)) ?_) | (refine ST.st (st_store inf89 rfl rfl rfl rfl rfl rfl rfl (by first | decide | (simp; done)) rfl) ?_))
     refine AN.nil (by kernel_rfl) ?_
     show Less _ _
     (try simp only [S.put, S.newObj, setL, V.cs, List.length_cons, List.length_nil, List.take_succ_cons, List.take_zero, List.drop_succ_cons, List.drop_zero, List.drop_nil, List.nil_append, List.cons_append, List.append_nil, Nat.zero_add, Nat.reduceAdd, List.map_cons, List.map_nil, List.set_cons_zero, List.set_cons_succ])
     try simp only [S.dd, ddL, List.contains_cons, List.contains_nil, Nat.reduceBEq, beq_self_eq_true, Bool.or_false, Bool.or_true, Bool.false_or, Bool.true_or, Bool.or_self, if_true, if_false, Bool.false_eq_true, ↓reduceIte]
     exact (Less.of rfl (by repeat (first | exact trivial | refine ⟨⟨_, rfl, Wk.refl _⟩, ?_⟩)) (by repeat (first | exact trivial | refine ⟨rfl, ?_⟩)) rfl)
   ·refine BR.mk (l' := #[true, false, true, true, true, true, false, false, false, false]) rfl rfl rfl ?_
    (first | (refine ST.sm (sm_makeMap2 false 5 810 811 rfl (by first | rfl | simp [S.clean, S.put, S.newObj, S.forget, V.has, V.hasL, junkIf, setL, V.cs, hasL_i, hasL_vd, hasL_vdt, hasL_d, hasL_b, hasL_s, hasL_n, hasL_rep, hasL_flat, hasL_append, -List.map_set]) rfl rfl rfl) ?_) | (refine ST.sm (sm_makeMap 811 rfl (by first | rfl | simp [S.clean, S.put, S.newObj, S.forget, V.has, V.hasL, junkIf, setL, V.cs, hasL_i, hasL_vd, hasL_vdt, hasL_d, hasL_b, hasL_s, hasL_n, hasL_rep, hasL_flat, hasL_append, -List.map_set]) rfl) ?_))
    try simp only [S.put, List.map_cons, List.map_nil, rowMap, to2_d, to2_ref, to2_own, to2_junk, to2_F, to2_T, List.getElem_toArray, List.getElem_cons_zero, List.getElem_cons_succ, List.set_cons_zero, List.set_cons_succ, Bool.not_true, Bool.not_false, if_true, if_false, Bool.false_eq_true, ↓reduceIte]
    refine AN.br2 (i := 1) (j := 6) (by kernel_rfl) ?_ ?_
    ·refine BR.mk (l' := #[true, true, true, true, true, true, false, false, false, false]) rfl rfl rfl ?_
     (first | (refine ST.rd rfl (rd_load_ref Tryd.underlying75 rfl rfl rfl rfl rfl rfl) ?_) | (refine ST.rd rfl (rd_load_ad Tryd.underlying75 rfl rfl rfl rfl) ?_) | (refine ST.rd rfl (rd_load_map Tryd.underlying75 rfl rfl rfl rfl rfl rfl (by assumption)) ?_) | (refine ST.rd rfl (rd_load_flat Tryd.underlying75 rfl rfl rfl rfl rfl rfl (fun _ => rfl) (by assumption) rfl) ?_))
     refine AN.br1 (i := 6) (by kernel_rfl) ?_
     refine BR.mk (l' := #[true, true, true, true, true, true, true, false, false, false]) rfl rfl rfl ?_
     (first | (refine ST.st (st_store_map2 inf88 rfl rfl rfl rfl rfl rfl rfl rfl (by first | assumption | omega)) ?_) | (refine ST.st (st_store inf88 rfl rfl rfl rfl rfl rfl rfl (by first | decide | (simp; done)) rfl) ?_))
     (first | (refine AN.rp (i := 7) (l' := #[true, true, true, true, true, true, true, true, false, false]) rfl rfl rfl (fun _ _ h => h) (by kernel_rfl) rfl (rp_nilCheck rfl rfl) ?_) | (refine AN.rp (i := 7) (l' := #[true, true, true, true, true, true, true, true, false, false]) rfl rfl rfl (fun _ _ h => h) (by kernel_rfl) rfl (rp_nilCheck_ad rfl rfl) ?_))
     (first | (refine AN.rp (i := 8) (l' := #[true, true, true, true, true, true, true, true, true, false]) rfl rfl rfl (fun _ _ h => h) (by kernel_rfl) rfl (rp_field_ref Tryd.underlying91 rfl rfl rfl inf89 (by decide) rfl) ?_) | (refine AN.rp (i := 8) (l' := #[true, true, true, true, true, true, true, true, true, false]) rfl rfl rfl (fun _ _ h => h) (by kernel_rfl) rfl (rp_field_ad Tryd.underlying91 rfl rfl rfl inf89 (by decide) rfl) ?_))
     refine AN.br1 (i := 9) (by kernel_rfl) ?_
     refine BR.mk (l' := #[true, true, true, true, true, true, true, true, true, true]) rfl rfl rfl ?_
     (first | (refine ST.st (st_store_map2 inf89 rfl rfl rfl rfl rfl rfl rfl rfl (by first | assumption | omega)) ?_) | (refine ST.st (st_store inf89 rfl rfl rfl rfl rfl rfl rfl (by first | decide | (simp; done)) rfl) ?_))
     refine AN.nil (by kernel_rfl) ?_
     show Less _ _
     (try simp only [S.put, S.newObj, setL, V.cs, List.length_cons, List.length_nil, List.take_succ_cons, List.take_zero, List.drop_succ_cons, List.drop_zero, List.drop_nil, List.nil_append, List.cons_append, List.append_nil, Nat.zero_add, Nat.reduceAdd, List.map_cons, List.map_nil, List.set_cons_zero, List.set_cons_succ])
     try simp only [S.dd, ddL, List.contains_cons, List.contains_nil, Nat.reduceBEq, beq_self_eq_true, Bool.or_false, Bool.or_true, Bool.false_or, Bool.true_or, Bool.or_self, if_true, if_false, Bool.false_eq_true, ↓reduceIte]
     exact (Less.of rfl (by repeat (first | exact trivial | refine ⟨⟨_, rfl, Wk.refl _⟩, ?_⟩)) (by repeat (first | exact trivial | refine ⟨rfl, ?_⟩)) rfl)
    ·refine BR.mk (l' := #[true, false, true, true, true, true, true, false, false, false]) rfl rfl rfl ?_
     (first | (refine ST.st (st_store_map2 inf88 rfl rfl rfl rfl rfl rfl rfl rfl (by first | assumption | omega)) ?_) | (refine ST.st (st_store inf88 rfl rfl rfl rfl rfl rfl rfl (by first | decide | (simp; done)) rfl) ?_))
     refine AN.br1 (i := 1) (by kernel_rfl) ?_
     refine BR.mk (l' := #[true, true, true, true, true, true, true, false, false, false]) rfl rfl rfl ?_
     (first | (refine ST.rd rfl (rd_load_ref Tryd.underlying75 rfl rfl rfl rfl rfl rfl) ?_) | (refine ST.rd rfl (rd_load_ad Tryd.underlying75 rfl rfl rfl rfl) ?_) | (refine ST.rd rfl (rd_load_map Tryd.underlying75 rfl rfl rfl rfl rfl rfl (by assumption)) ?_) | (refine ST.rd rfl (rd_load_flat Tryd.underlying75 rfl rfl rfl rfl rfl rfl (fun _ => rfl) (by assumption) rfl) ?_))
     (first | (refine AN.rp (i := 7) (l' := #[true, true, true, true, true, true, true, true, false, false]) rfl rfl rfl (fun _ _ h => h) (by kernel_rfl) rfl (rp_nilCheck rfl rfl) ?_) | (refine AN.rp (i := 7) (l' := #[true, true, true, true, true, true, true, true, false, false]) rfl rfl rfl (fun _ _ h => h) (by kernel_rfl) rfl (rp_nilCheck_ad rfl rfl) ?_))
     (first | (refine AN.rp (i := 8) (l' := #[true, true, true, true, true, true, true, true, true, false]) rfl rfl rfl (fun _ _ h => h) (by kernel_rfl) rfl (rp_field_ref Tryd.underlying91 rfl rfl rfl inf89 (by decide) rfl) ?_) | (refine AN.rp (i := 8) (l' := #[true, true, true, true, true, true, true, true, true, false]) rfl rfl rfl (fun _ _ h => h) (by kernel_rfl) rfl (rp_field_ad Tryd.underlying91 rfl rfl rfl inf89 (by decide) rfl) ?_))
     refine AN.br1 (i := 9) (by kernel_rfl) ?_
     refine BR.mk (l' := #[true, true, true, true, true, true, true, true, true, true]) rfl rfl rfl ?_
     (first | (refine ST.st (st_store_map2 inf89 rfl rfl rfl rfl rfl rfl rfl rfl (by first | assumption | omega)) ?_) | (refine ST.st (st_store inf89 rfl rfl rfl rfl rfl rfl rfl (by first | decide | (simp; done)) rfl) ?_))
     refine AN.nil (by kernel_rfl) ?_
     show Less _ _
     (try simp only [S.put, S.newObj, setL, V.cs, List.length_cons, List.length_nil, List.take_succ_cons, List.take_zero, List.drop_succ_cons, List.drop_zero, List.drop_nil, List.nil_append, List.cons_append, List.append_nil, Nat.zero_add, Nat.reduceAdd, List.map_cons, List.map_nil, List.set_cons_zero, List.set_cons_succ])
     try simp only [S.dd, ddL, List.contains_cons, List.contains_nil, Nat.reduceBEq, beq_self_eq_true, Bool.or_false, Bool.or_true, Bool.false_or, Bool.true_or, Bool.or_self, if_true, if_false, Bool.false_eq_true, ↓reduceIte]
     exact (Less.of rfl (by repeat (first | exact trivial | refine ⟨⟨_, rfl, Wk.refl _⟩, ?_⟩)) (by repeat (first | exact trivial | refine ⟨rfl, ?_⟩)) rfl)
   ·refine BR.mk (l' := #[true, false, true, false, true, true, true, false, false, false]) rfl rfl rfl ?_
    (first | (refine ST.st (st_store_map2 inf88 rfl rfl rfl rfl rfl rfl rfl rfl (by first | assumption | omega)) ?_) | (refine ST.st (st_store inf88 rfl rfl rfl rfl rfl rfl rfl (by first | decide | (simp; done)) rfl) ?_))
    refine AN.br2 (i := 1) (j := 3) (by kernel_rfl) ?_ ?_
    ·refine BR.mk (l' := #[true, true, true, false, true, true, true, false, false, false]) rfl rfl rfl ?_
     (first | (refine ST.rd rfl (rd_load_ref Tryd.underlying75 rfl rfl rfl rfl rfl rfl) ?_) | (refine ST.rd rfl (rd_load_ad Tryd.underlying75 rfl rfl rfl rfl) ?_) | (refine ST.rd rfl (rd_load_map Tryd.underlying75 rfl rfl rfl rfl rfl rfl (by assumption)) ?_) | (refine ST.rd rfl (rd_load_flat Tryd.underlying75 rfl rfl rfl rfl rfl rfl (fun _ => rfl) (by assumption) rfl) ?_))
     refine AN.br1 (i := 3) (by kernel_rfl) ?_
     refine BR.mk (l' := #[true, true, true, true, true, true, true, false, false, false]) rfl rfl rfl ?_
     (first | (refine ST.sm (sm_makeMap2 false 5 810 811 rfl (by first | rfl | simp [S.clean, S.put, S.newObj, S.forget, V.has, V.hasL, junkIf, setL, V.cs, hasL_i, hasL_vd, hasL_vdt, hasL_d, hasL_b, hasL_s, hasL_n, hasL_rep, hasL_flat, hasL_append, -List.map_set]) rfl rfl rfl) ?_) | (refine ST.sm (sm_makeMap 811 rfl (by first | rfl | simp [S.clean, S.put, S.newObj, S.forget, V.has, V.hasL, junkIf, setL, V.cs, hasL_i, hasL_vd, hasL_vdt, hasL_d, hasL_b, hasL_s, hasL_n, hasL_rep, hasL_flat, hasL_append, -List.map_set]) rfl) ?_))
     try simp only [S.put, List.map_cons, List.map_nil, rowMap, to2_d, to2_ref, to2_own, to2_junk, to2_F, to2_T, List.getElem_toArray, List.getElem_cons_zero, List.getElem_cons_succ, List.set_cons_zero, List.set_cons_succ, Bool.not_true, Bool.not_false, if_true, if_false, Bool.false_eq_true, ↓reduceIte]
     (first | (refine AN.rp (i := 7) (l' := #[true, true, true, true, true, true, true, true, false, false]) rfl rfl rfl (fun _ _ h => h) (by kernel_rfl) rfl (rp_nilCheck rfl rfl) ?_) | (refine AN.rp (i := 7) (l' := #[true, true, true, true, true, true, true, true, false, false]) rfl rfl rfl (fun _ _ h => h) (by kernel_rfl) rfl (rp_nilCheck_ad rfl rfl) ?_))
     (first | (refine AN.rp (i := 8) (l' := #[true, true, true, true, true, true, true, true, true, false]) rfl rfl rfl (fun _ _ h => h) (by kernel_rfl) rfl (rp_field_ref Tryd.underlying91 rfl rfl rfl inf89 (by decide) rfl) ?_) | (refine AN.rp (i := 8) (l' := #[true, true, true, true, true, true, true, true, true, false]) rfl rfl rfl (fun _ _ h => h) (by kernel_rfl) rfl (rp_field_ad Tryd.underlying91 rfl rfl rfl inf89 (by decide) rfl) ?_))
     refine AN.br1 (i := 9) (by kernel_rfl) ?_
     refine BR.mk (l' := #[true, true, true, true, true, true, true, true, true, true]) rfl rfl rfl ?_
     (first | (refine ST.st (st_store_map2 inf89 rfl rfl rfl rfl rfl rfl rfl rfl (by first | assumption | omega)) ?_) | (refine ST.st (st_store inf89 rfl rfl rfl rfl rfl rfl rfl (by first | decide | (simp; done)) rfl) ?_))
     refine AN.nil (by kernel_rfl) ?_
     show Less _ _
     (try simp only [S.put, S.newObj, setL, V.cs, List.length_cons, List.length_nil, List.take_succ_cons, List.take_zero, List.drop_succ_cons, List.drop_zero, List.drop_nil, List.nil_append, List.cons_append, List.append_nil, Nat.zero_add, Nat.reduceAdd, List.map_cons, List.map_nil, List.set_cons_zero, List.set_cons_succ])
     try simp only [S.dd, ddL, List.contains_cons, List.contains_nil, Nat.reduceBEq, beq_self_eq_true, Bool.or_false, Bool.or_true, Bool.false_or, Bool.true_or, Bool.or_self, if_true, if_false, Bool.false_eq_true, ↓reduceIte]
     exact (Less.of rfl (by repeat (first | exact trivial | refine ⟨⟨_, rfl, Wk.refl _⟩, ?_⟩)) (by repeat (first | exact trivial | refine ⟨rfl, ?_⟩)) rfl)
    ·refine BR.mk (l' := #[true, false, true, true, true, true, true, false, false, false]) rfl rfl rfl ?_
     (first | (refine ST.sm (sm_makeMap2 false 5 810 811 rfl (by first | rfl | simp [S.clean, S.put, S.newObj, S.forget, V.has, V.hasL, junkIf, setL, V.cs, hasL_i, hasL_vd, hasL_vdt, hasL_d, hasL_b, hasL_s, hasL_n, hasL_rep, hasL_flat, hasL_append, -List.map_set]) rfl rfl rfl) ?_) | (refine ST.sm (sm_makeMap 811 rfl (by first | rfl | simp [S.clean, S.put, S.newObj, S.forget, V.has, V.hasL, junkIf, setL, V.cs, hasL_i, hasL_vd, hasL_vdt, hasL_d, hasL_b, hasL_s, hasL_n, hasL_rep, hasL_flat, hasL_append, -List.map_set]) rfl) ?_))
     try simp only [S.put, List.map_cons, List.map_nil, rowMap, to2_d, to2_ref, to2_own, to2_junk, to2_F, to2_T, List.getElem_toArray, List.getElem_cons_zero, List.getElem_cons_succ, List.set_cons_zero, List.set_cons_succ, Bool.not_true, Bool.not_false, if_true, if_false, Bool.false_eq_true, ↓reduceIte]
     refine AN.br1 (i := 1) (by kernel_rfl) ?_
     refine BR.mk (l' := #[true, true, true, true, true, true, true, false, false, false]) rfl rfl rfl ?_
     (first | (refine ST.rd rfl (rd_load_ref Tryd.underlying75 rfl rfl rfl rfl rfl rfl) ?_) | (refine ST.rd rfl (rd_load_ad Tryd.underlying75 rfl rfl rfl rfl) ?_) | (refine ST.rd rfl (rd_load_map Tryd.underlying75 rfl rfl rfl rfl rfl rfl (by assumption)) ?_) | (refine ST.rd rfl (rd_load_flat Tryd.underlying75 rfl rfl rfl rfl rfl rfl (fun _ => rfl) (by assumption) rfl) ?_))
     (first | (refine AN.rp (i := 7) (l' := #[true, true, true, true, true, true, true, true, false, false]) rfl rfl rfl (fun _ _ h => h) (by kernel_rfl) rfl (rp_nilCheck rfl rfl) ?_) | (refine AN.rp (i := 7) (l' := #[true, true, true, true, true, true, true, true, false, false]) rfl rfl rfl (fun _ _ h => h) (by kernel_rfl) rfl (rp_nilCheck_ad rfl rfl) ?_))
     (first | (refine AN.rp (i := 8) (l' := #[true, true, true, true, true, true, true, true, true, false]) rfl rfl rfl (fun _ _ h => h) (by kernel_rfl) rfl (rp_field_ref Tryd.underlying91 rfl rfl rfl inf89 (by decide) rfl) ?_) | (refine AN.rp (i := 8) (l' := #[true, true, true, true, true, true, true, true, true, false]) rfl rfl rfl (fun _ _ h => h) (by kernel_rfl) rfl (rp_field_ad Tryd.underlying91 rfl rfl rfl inf89 (by decide) rfl) ?_))
     refine AN.br1 (i := 9) (by kernel_rfl) ?_
     refine BR.mk (l' := #[true, true, true, true, true, true, true, true, true, true]) rfl rfl rfl ?_
     (first | (refine ST.st (st_store_map2 inf89 rfl rfl rfl rfl rfl rfl rfl rfl (by first | assumption | omega)) ?_) | (refine ST.st (st_store inf89 rfl rfl rfl rfl rfl rfl rfl (by first | decide | (simp; done)) rfl) ?_))
     refine AN.nil (by kernel_rfl) ?_
     show Less _ _
     (try simp only [S.put, S.newObj, setL, V.cs, List.length_cons, List.length_nil, List.take_succ_cons, List.take_zero, List.drop_succ_cons, List.drop_zero, List.drop_nil, List.nil_append, List.cons_append, List.append_nil, Nat.zero_add, Nat.reduceAdd, List.map_cons, List.map_nil, List.set_cons_zero, List.set_cons_succ])
     try simp only [S.dd, ddL, List.contains_cons, List.contains_nil, Nat.reduceBEq, beq_self_eq_true, Bool.or_false, Bool.or_true, Bool.false_or, Bool.true_or, Bool.or_self, if_true, if_false, Bool.false_eq_true, ↓reduceIte]
     exact (Less.of rfl (by repeat (first | exact trivial | refine ⟨⟨_, rfl, Wk.refl _⟩, ?_⟩)) (by repeat (first | exact trivial | refine ⟨rfl, ?_⟩)) rfl)
  ·refine BR.mk (l' := #[false, true, true, false, false, false, false, false, false, false]) rfl rfl rfl ?_
   (first | (refine ST.rd rfl (rd_load_ref Tryd.underlying75 rfl rfl rfl rfl rfl rfl) ?_) | (refine ST.rd rfl (rd_load_ad Tryd.underlying75 rfl rfl rfl rfl) ?_) | (refine ST.rd rfl (rd_load_map Tryd.underlying75 rfl rfl rfl rfl rfl rfl (by assumption)) ?_) | (refine ST.rd rfl (rd_load_flat Tryd.underlying75 rfl rfl rfl rfl rfl rfl (fun _ => rfl) (by assumption) rfl) ?_))
   refine AN.br2 (i := 0) (j := 3) (by kernel_rfl) ?_ ?_
   ·refine BR.mk (l' := #[true, true, true, false, false, false, false, false, false, false]) rfl rfl rfl ?_
    (first | (refine ST.rd rfl (rd_load_ref Tryd.underlying75 rfl rfl rfl rfl rfl rfl) ?_) | (refine ST.rd rfl (rd_load_ad Tryd.underlying75 rfl rfl rfl rfl) ?_) | (refine ST.rd rfl (rd_load_map Tryd.underlying75 rfl rfl rfl rfl rfl rfl (by assumption)) ?_) | (refine ST.rd rfl (rd_load_flat Tryd.underlying75 rfl rfl rfl rfl rfl rfl (fun _ => rfl) (by assumption) rfl) ?_))
    (first | (refine AN.rp (i := 4) (l' := #[true, true, true, false, true, false, false, false, false, false]) rfl rfl rfl (fun _ _ h => h) (by kernel_rfl) rfl (rp_nilCheck rfl rfl) ?_) | (refine AN.rp (i := 4) (l' := #[true, true, true, false, true, false, false, false, false, false]) rfl rfl rfl (fun _ _ h => h) (by kernel_rfl) rfl (rp_nilCheck_ad rfl rfl) ?_))
    (first | (refine AN.rp (i := 5) (l' := #[true, true, true, false, true, true, false, false, false, false]) rfl rfl rfl (fun _ _ h => h) (by kernel_rfl) rfl (rp_field_ref Tryd.underlying91 rfl rfl rfl inf88 (by decide) rfl) ?_) | (refine AN.rp (i := 5) (l' := #[true, true, true, false, true, true, false, false, false, false]) rfl rfl rfl (fun _ _ h => h) (by kernel_rfl) rfl (rp_field_ad Tryd.underlying91 rfl rfl rfl inf88 (by decide) rfl) ?_))
    refine AN.br2 (i := 3) (j := 6) (by kernel_rfl) ?_ ?_
    ·refine BR.mk (l' := #[true, true, true, true, true, true, false, false, false, false]) rfl rfl rfl ?_
     (first | (refine ST.sm (sm_makeMap2 false 5 810 811 rfl (by first | rfl | simp [S.clean, S.put, S.newObj, S.forget, V.has, V.hasL, junkIf, setL, V.cs, hasL_i, hasL_vd, hasL_vdt, hasL_d, hasL_b, hasL_s, hasL_n, hasL_rep, hasL_flat, hasL_append, -List.map_set]) rfl rfl rfl) ?_) | (refine ST.sm (sm_makeMap 811 rfl (by first | rfl | simp [S.clean, S.put, S.newObj, S.forget, V.has, V.hasL, junkIf, setL, V.cs, hasL_i, hasL_vd, hasL_vdt, hasL_d, hasL_b, hasL_s, hasL_n, hasL_rep, hasL_flat, hasL_append, -List.map_set]) rfl) ?_))
     try simp only [S.put, List.map_cons, List.map_nil, rowMap, to2_d, to2_ref, to2_own, to2_junk, to2_F, to2_T, List.getElem_toArray, List.getElem_cons_zero, List.getElem_cons_succ, List.set_cons_zero, List.set_cons_succ, Bool.not_true, Bool.not_false, if_true, if_false, Bool.false_eq_true, ↓reduceIte]
     refine AN.br1 (i := 6) (by kernel_rfl) ?_
     refine BR.mk (l' := #[true, true, true, true, true, true, true, false, false, false]) rfl rfl rfl ?_
     (first | (refine ST.st (st_store_map2 inf88 rfl rfl rfl rfl rfl rfl rfl rfl (by first | assumption | omega)) ?_) | (refine ST.st (st_store inf88 rfl rfl rfl rfl rfl rfl rfl (by first | decide | (simp; done)) rfl) ?_))
     (first | (refine AN.rp (i := 7) (l' := #[true, true, true, true, true, true, true, true, false, false]) rfl rfl rfl (fun _ _ h => h) (by kernel_rfl) rfl (rp_nilCheck rfl rfl) ?_) | (refine AN.rp (i := 7) (l' := #[true, true, true, true, true, true, true, true, false, false]) rfl rfl rfl (fun _ _ h => h) (by kernel_rfl) rfl (rp_nilCheck_ad rfl rfl) ?_))
     (first | (refine AN.rp (i := 8) (l' := #[true, true, true, true, true, true, true, true, true, false]) rfl rfl rfl (fun _ _ h => h) (by kernel_rfl) rfl (rp_field_ref Tryd.underlying91 rfl rfl rfl inf89 (by decide) rfl) ?_) | (refine AN.rp (i := 8) (l' := #[true, true, true, true, true, true, true, true, true, false]) rfl rfl rfl (fun _ _ h => h) (by kernel_rfl) rfl (rp_field_ad Tryd.underlying91 rfl rfl rfl inf89 (by decide) rfl) ?_))
     refine AN.br1 (i := 9) (by kernel_rfl) ?_
     refine BR.mk (l' := #[true, true, true, true, true, true, true, true, true, true]) rfl rfl rfl ?_
     (first | (refine ST.st (st_store_map2 inf89 rfl rfl rfl rfl rfl rfl rfl rfl (by first | assumption | omega)) ?_) | (refine ST.st (st_store inf89 rfl rfl rfl rfl rfl rfl rfl (by first | decide | (simp; done)) rfl) ?_))
     refine AN.nil (by kernel_rfl) ?_
     show Less _ _
     (try simp only [S.put, S.newObj, setL, V.cs, List.length_cons, List.length_nil, List.take_succ_cons, List.take_zero, List.drop_succ_cons, List.drop_zero, List.drop_nil, List.nil_append, List.cons_append, List.append_nil, Nat.zero_add, Nat.reduceAdd, List.map_cons, List.map_nil, List.set_cons_zero, List.set_cons_succ])
     try simp only [S.dd, ddL, List.contains_cons, List.contains_nil, Nat.reduceBEq, beq_self_eq_true, Bool.or_false, Bool.or_true, Bool.false_or, Bool.true_or, Bool.or_self, if_true, if_false, Bool.false_eq_true, ↓reduceIte]
     exact (Less.of rfl (by repeat (first | exact trivial | refine ⟨⟨_, rfl, Wk.refl _⟩, ?_⟩)) (by repeat (first | exact trivial | refine ⟨rfl, ?_⟩)) rfl)
    ·refine BR.mk (l' := #[true, true, true, false, true, true, true, false, false, false]) rfl rfl rfl ?_
     (first | (refine ST.st (st_store_map2 inf88 rfl rfl rfl rfl rfl rfl rfl rfl (by first | assumption | omega)) ?_) | (refine ST.st (st_store inf88 rfl rfl rfl rfl rfl rfl rfl (by first | decide | (simp; done)) rfl) ?_))
     refine AN.br1 (i := 3) (by kernel_rfl) ?_
     refine BR.mk (l' := #[true, true, true, true, true, true, true, false, false, false]) rfl rfl rfl ?_
     (first | (refine ST.sm (sm_makeMap2 false 5 810 811 rfl (by first | rfl | simp [S.clean, S.put, S.newObj, S.forget, V.has, V.hasL, junkIf, setL, V.cs, hasL_i, hasL_vd, hasL_vdt, hasL_d, hasL_b, hasL_s, hasL_n, hasL_rep, hasL_flat, hasL_append, -List.map_set]) rfl rfl rfl) ?_) | (refine ST.sm (sm_makeMap 811 rfl (by first | rfl | simp [S.clean, S.put, S.newObj, S.forget, V.has, V.hasL, junkIf, setL, V.cs, hasL_i, hasL_vd, hasL_vdt, hasL_d, hasL_b, hasL_s, hasL_n, hasL_rep, hasL_flat, hasL_append, -List.map_set]) rfl) ?_))
     try simp only [S.put, List.map_cons, List.map_nil, rowMap, to2_d, to2_ref, to2_own, to2_junk, to2_F, to2_T, List.getElem_toArray, List.getElem_cons_zero, List.getElem_cons_succ, List.set_cons_zero, List.set_cons_succ, Bool.not_true, Bool.not_false, if_true, if_false, Bool.false_eq_true, ↓reduceIte]
     (first | (refine AN.rp (i := 7) (l' := #[true, true, true, true, true, true, true, true, false, false]) rfl rfl rfl (fun _ _ h => h) (by kernel_rfl) rfl (rp_nilCheck rfl rfl) ?_) | (refine AN.rp (i := 7) (l' := #[true, true, true, true, true, true, true, true, false, false]) rfl rfl rfl (fun _ _ h => h) (by kernel_rfl) rfl (rp_nilCheck_ad rfl rfl) ?_))
     (first | (refine AN.rp (i := 8) (l' := #[true, true, true, true, true, true, true, true, true, false]) rfl rfl rfl (fun _ _ h => h) (by kernel_rfl) rfl (rp_field_ref Tryd.underlying91 rfl rfl rfl inf89 (by decide) rfl) ?_) | (refine AN.rp (i := 8) (l' := #[true, true, true, true, true, true, true, true, true, false]) rfl rfl rfl (fun _ _ h => h) (by kernel_rfl) rfl (rp_field_ad Tryd.underlying91 rfl rfl rfl inf89 (by decide) rfl) ?_))
     refine AN.br1 (i := 9) (by kernel_rfl) ?_
     refine BR.mk (l' := #[true, true, true, true, true, true, true, true, true, true]) rfl rfl rfl ?_
     (first | (refine ST.st (st_store_map2 inf89 rfl rfl rfl rfl rfl rfl rfl rfl (by first | assumption | omega)) ?_) | (refine ST.st (st_store inf89 rfl rfl rfl rfl rfl rfl rfl (by first | decide | (simp; done)) rfl) ?_))
     refine AN.nil (by kernel_rfl) ?_
     show Less _ _
     (try simp only [S.put, S.newObj, setL, V.cs, List.length_cons, List.length_nil, List.take_succ_cons, List.take_zero, List.drop_succ_cons, List.drop_zero, List.drop_nil, List.nil_append, List.cons_append, List.append_nil, Nat.zero_add, Nat.reduceAdd, List.map_cons, List.map_nil, List.set_cons_zero, List.set_cons_succ])
     try simp only [S.dd, ddL, List.contains_cons, List.contains_nil, Nat.reduceBEq, beq_self_eq_true, Bool.or_false, Bool.or_true, Bool.false_or, Bool.true_or, Bool.or_self, if_true, if_false, Bool.false_eq_true, ↓reduceIte]
     exact (Less.of rfl (by repeat (first | exact trivial | refine ⟨⟨_, rfl, Wk.refl _⟩, ?_⟩)) (by repeat (first | exact trivial | refine ⟨rfl, ?_⟩)) rfl)
   ·refine BR.mk (l' := #[false, true, true, true, false, false, false, false, false, false]) rfl rfl rfl ?_
    (first | (refine ST.sm (sm_makeMap2 false 5 810 811 rfl (by first | rfl | simp [S.clean, S.put, S.newObj, S.forget, V.has, V.hasL, junkIf, setL, V.cs, hasL_i, hasL_vd, hasL_vdt, hasL_d, hasL_b, hasL_s, hasL_n, hasL_rep, hasL_flat, hasL_append, -List.map_set]) rfl rfl rfl) ?_) | (refine ST.sm (sm_makeMap 811 rfl (by first | rfl | simp [S.clean, S.put, S.newObj, S.forget, V.has, V.hasL, junkIf, setL, V.cs, hasL_i, hasL_vd, hasL_vdt, hasL_d, hasL_b, hasL_s, hasL_n, hasL_rep, hasL_flat, hasL_append, -List.map_set]) rfl) ?_))
    try simp only [S.put, List.map_cons, List.map_nil, rowMap, to2_d, to2_ref, to2_own, to2_junk, to2_F, to2_T, List.getElem_toArray, List.getElem_cons_zero, List.getElem_cons_succ, List.set_cons_zero, List.set_cons_succ, Bool.not_true, Bool.not_false, if_true, if_false, Bool.false_eq_true, ↓reduceIte]
    refine AN.br1 (i := 0) (by kernel_rfl) ?_
    refine BR.mk (l' := #[true, true, true, true, false, false, false, false, false, false]) rfl rfl rfl ?_
    (first | (refine ST.rd rfl (rd_load_ref Tryd.underlying75 rfl rfl rfl rfl rfl rfl) ?_) | (refine ST.rd rfl (rd_load_ad Tryd.underlying75 rfl rfl rfl rfl) ?_) | (refine ST.rd rfl (rd_load_map Tryd.underlying75 rfl rfl rfl rfl rfl rfl (by assumption)) ?_) | (refine ST.rd rfl (rd_load_flat Tryd.underlying75 rfl rfl rfl rfl rfl rfl (fun _ => rfl) (by assumption) rfl) ?_))
    (first | (refine AN.rp (i := 4) (l' := #[true, true, true, true, true, false, false, false, false, false]) rfl rfl rfl (fun _ _ h => h) (by kernel_rfl) rfl (rp_nilCheck rfl rfl) ?_) | (refine AN.rp (i := 4) (l' := #[true, true, true, true, true, false, false, false, false, false]) rfl rfl rfl (fun _ _ h => h) (by kernel_rfl) rfl (rp_nilCheck_ad rfl rfl) ?_))
    (first | (refine AN.rp (i := 5) (l' := #[true, true, true, true, true, true, false, false, false, false]) rfl rfl rfl (fun _ _ h => h) (by kernel_rfl) rfl (rp_field_ref Tryd.underlying91 rfl rfl rfl inf88 (by decide) rfl) ?_) | (refine AN.rp (i := 5) (l' := #[true, true, true, true, true, true, false, false, false, false]) rfl rfl rfl (fun _ _ h => h) (by kernel_rfl) rfl (rp_field_ad Tryd.underlying91 rfl rfl rfl inf88 (by decide) rfl) ?_))
    refine AN.br1 (i := 6) (by kernel_rfl) ?_
    refine BR.mk (l' := #[true, true, true, true, true, true, true, false, false, false]) rfl rfl rfl ?_
    (first | (refine ST.st (st_store_map2 inf88 rfl rfl rfl rfl rfl rfl rfl rfl (by first | assumption | omega)) ?_) | (refine ST.st (st_store inf88 rfl rfl rfl rfl rfl rfl rfl (by first | decide | (simp; done)) rfl) ?_))
    (first | (refine AN.rp (i := 7) (l' := #[true, true, true, true, true, true, true, true, false, false]) rfl rfl rfl (fun _ _ h => h) (by kernel_rfl) rfl (rp_nilCheck rfl rfl) ?_) | (refine AN.rp (i := 7) (l' := #[true, true, true, true, true, true, true, true, false, false]) rfl rfl rfl (fun _ _ h => h) (by kernel_rfl) rfl (rp_nilCheck_ad rfl rfl) ?_))
    (first | (refine AN.rp (i := 8) (l' := #[true, true, true, true, true, true, true, true, true, false]) rfl rfl rfl (fun _ _ h => h) (by kernel_rfl) rfl (rp_field_ref Tryd.underlying91 rfl rfl rfl inf89 (by decide) rfl) ?_) | (refine AN.rp (i := 8) (l' := #[true, true, true, true, true, true, true, true, true, false]) rfl rfl rfl (fun _ _ h => h) (by kernel_rfl) rfl (rp_field_ad Tryd.underlying91 rfl rfl rfl inf89 (by decide) rfl) ?_))
    refine AN.br1 (i := 9) (by kernel_rfl) ?_
    refine BR.mk (l' := #[true, true, true, true, true, true, true, true, true, true]) rfl rfl rfl ?_
    (first | (refine ST.st (st_store_map2 inf89 rfl rfl rfl rfl rfl rfl rfl rfl (by first | assumption | omega)) ?_) | (refine ST.st (st_store inf89 rfl rfl rfl rfl rfl rfl rfl (by first | decide | (simp; done)) rfl) ?_))
    refine AN.nil (by kernel_rfl) ?_
    show Less _ _
    (try simp only [S.put, S.newObj, setL, V.cs, List.length_cons, List.length_nil, List.take_succ_cons, List.take_zero, List.drop_succ_cons, List.drop_zero, List.drop_nil, List.nil_append, List.cons_append, List.append_nil, Nat.zero_add, Nat.reduceAdd, List.map_cons, List.map_nil, List.set_cons_zero, List.set_cons_succ])
    try simp only [S.dd, ddL, List.contains_cons, List.contains_nil, Nat.reduceBEq, beq_self_eq_true, Bool.or_false, Bool.or_true, Bool.false_or, Bool.true_or, Bool.or_self, if_true, if_false, Bool.false_eq_true, ↓reduceIte]
    exact (Less.of rfl (by repeat (first | exact trivial | refine ⟨⟨_, rfl, Wk.refl _⟩, ?_⟩)) (by repeat (first | exact trivial | refine ⟨rfl, ?_⟩)) rfl)
  ·refine BR.mk (l' := #[false, false, true, true, false, false, false, false, false, false]) rfl rfl rfl ?_
   (first | (refine ST.sm (sm_makeMap2 false 5 810 811 rfl (by first | rfl | simp [S.clean, S.put, S.newObj, S.forget, V.has, V.hasL, junkIf, setL, V.cs, hasL_i, hasL_vd, hasL_vdt, hasL_d, hasL_b, hasL_s, hasL_n, hasL_rep, hasL_flat, hasL_append, -List.map_set]) rfl rfl rfl) ?_) | (refine ST.sm (sm_makeMap 811 rfl (by first | rfl | simp [S.clean, S.put, S.newObj, S.forget, V.has, V.hasL, junkIf, setL, V.cs, hasL_i, hasL_vd, hasL_vdt, hasL_d, hasL_b, hasL_s, hasL_n, hasL_rep, hasL_flat, hasL_append, -List.map_set]) rfl) ?_))
   try simp only [S.put, List.map_cons, List.map_nil, rowMap, to2_d, to2_ref, to2_own, to2_junk, to2_F, to2_T, List.getElem_toArray, List.getElem_cons_zero, List.getElem_cons_succ, List.set_cons_zero, List.set_cons_succ, Bool.not_true, Bool.not_false, if_true, if_false, Bool.false_eq_true, ↓reduceIte]
   refine AN.br2 (i := 0) (j := 1) (by kernel_rfl) ?_ ?_
   ·refine BR.mk (l' := #[true, false, true, true, false, false, false, false, false, false]) rfl rfl rfl ?_
    (first | (refine ST.rd rfl (rd_load_ref Tryd.underlying75 rfl rfl rfl rfl rfl rfl) ?_) | (refine ST.rd rfl (rd_load_ad Tryd.underlying75 rfl rfl rfl rfl) ?_) | (refine ST.rd rfl (rd_load_map Tryd.underlying75 rfl rfl rfl rfl rfl rfl (by assumption)) ?_) | (refine ST.rd rfl (rd_load_flat Tryd.underlying75 rfl rfl rfl rfl rfl rfl (fun _ => rfl) (by assumption) rfl) ?_))
    (first | (refine AN.rp (i := 4) (l' := #[true, false, true, true, true, false, false, false, false, false]) rfl rfl rfl (fun _ _ h => h) (by kernel_rfl) rfl (rp_nilCheck rfl rfl) ?_) | (refine AN.rp (i := 4) (l' := #[true, false, true, true, true, false, false, false, false, false]) rfl rfl rfl (fun _ _ h => h) (by kernel_rfl) rfl (rp_nilCheck_ad rfl rfl) ?_))
    (first | (refine AN.rp (i := 5) (l' := #[true, false, true, true, true, true, false, false, false, false]) rfl rfl rfl (fun _ _ h => h) (by kernel_rfl) rfl (rp_field_ref Tryd.underlying91 rfl rfl rfl inf88 (by decide) rfl) ?_) | (refine AN.rp (i := 5) (l' := #[true, false, true, true, true, true, false, false, false, false]) rfl rfl rfl (fun _ _ h => h) (by kernel_rfl) rfl (rp_field_ad Tryd.underlying91 rfl rfl rfl inf88 (by decide) rfl) ?_))
    refine AN.br2 (i := 1) (j := 6) (by kernel_rfl) ?_ ?_
    ·refine BR.mk (l' := #[true, true, true, true, true, true, false, false, false, false]) rfl rfl rfl ?_
     (first | (refine ST.rd rfl (rd_load_ref Tryd.underlying75 rfl rfl rfl rfl rfl rfl) ?_) | (refine ST.rd rfl (rd_load_ad Tryd.underlying75 rfl rfl rfl rfl) ?_) | (refine ST.rd rfl (rd_load_map Tryd.underlying75 rfl rfl rfl rfl rfl rfl (by assumption)) ?_) | (refine ST.rd rfl (rd_load_flat Tryd.underlying75 rfl rfl rfl rfl rfl rfl (fun _ => rfl) (by assumption) rfl) ?_))
     refine AN.br1 (i := 6) (by kernel_rfl) ?_
     refine BR.mk (l' := #[true, true, true, true, true, true, true, false, false, false]) rfl rfl rfl ?_
     (first | (refine ST.st (st_store_map2 inf88 rfl rfl rfl rfl rfl rfl rfl rfl (by first | assumption | omega)) ?_) | (refine ST.st (st_store inf88 rfl rfl rfl rfl rfl rfl rfl (by first | decide | (simp; done)) rfl) ?_))
     (first | (refine AN.rp (i := 7) (l' := #[true, true, true, true, true, true, true, true, false, false]) rfl rfl rfl (fun _ _ h => h) (by kernel_rfl) rfl (rp_nilCheck rfl rfl) ?_) | (refine AN.rp (i := 7) (l' := #[true, true, true, true, true, true, true, true, false, false]) rfl rfl rfl (fun _ _ h => h) (by kernel_rfl) rfl (rp_nilCheck_ad rfl rfl) ?_))
     (first | (refine AN.rp (i := 8) (l' := #[true, true, true, true, true, true, true, true, true, false]) rfl rfl rfl (fun _ _ h => h) (by kernel_rfl) rfl (rp_field_ref Tryd.underlying91 rfl rfl rfl inf89 (by decide) rfl) ?_) | (refine AN.rp (i := 8) (l' := #[true, true, true, true, true, true, true, true, true, false]) rfl rfl rfl (fun _ _ h => h) (by kernel_rfl) rfl (rp_field_ad Tryd.underlying91 rfl rfl rfl inf89 (by decide) rfl) ?_))
     refine AN.br1 (i := 9) (by kernel_rfl) ?_
     refine BR.mk (l' := #[true, true, true, true, true, true, true, true, true, true]) rfl rfl rfl ?_
     (first | (refine ST.st (st_store_map2 inf89 rfl rfl rfl rfl rfl rfl rfl rfl (by first | assumption | omega)) ?_) | (refine ST.st (st_store inf89 rfl rfl rfl rfl rfl rfl rfl (by first | decide | (simp; done)) rfl) ?_))
     refine AN.nil (by kernel_rfl) ?_
     show Less _ _
     (try simp only [S.put, S.newObj, setL, V.cs, List.length_cons, List.length_nil, List.take_succ_cons, List.take_zero, List.drop_succ_cons, List.drop_zero, List.drop_nil, List.nil_append, List.cons_append, List.append_nil, Nat.zero_add, Nat.reduceAdd, List.map_cons, List.map_nil, List.set_cons_zero, List.set_cons_succ])
     try simp only [S.dd, ddL, List.contains_cons, List.contains_nil, Nat.reduceBEq, beq_self_eq_true, Bool.or_false, Bool.or_true, Bool.false_or, Bool.true_or, Bool.or_self, if_true, if_false, Bool.false_eq_true, ↓reduceIte]
     exact (Less.of rfl (by repeat (first | exact trivial | refine ⟨⟨_, rfl, Wk.refl _⟩, ?_⟩)) (by repeat (first | exact trivial | refine ⟨rfl, ?_⟩)) rfl)
    ·refine BR.mk (l' := #[true, false, true, true, true, true, true, false, false, false]) rfl rfl rfl ?_
     (first | (refine ST.st (st_store_map2 inf88 rfl rfl rfl rfl rfl rfl rfl rfl (by first | assumption | omega)) ?_) | (refine ST.st (st_store inf88 rfl rfl rfl rfl rfl rfl rfl (by first | decide | (simp; done)) rfl) ?_))
     refine AN.br1 (i := 1) (by kernel_rfl) ?_
     refine BR.mk (l' := #[true, true, true, true, true, true, true, false, false, false]) rfl rfl rfl ?_
     (first | (refine ST.rd rfl (rd_load_ref Tryd.underlying75 rfl rfl rfl rfl rfl rfl) ?_) | (refine ST.rd rfl (rd_load_ad Tryd.underlying75 rfl rfl rfl rfl) ?_) | (refine ST.rd rfl (rd_load_map Tryd.underlying75 rfl rfl rfl rfl rfl rfl (by assumption)) ?_) | (refine ST.rd rfl (rd_load_flat Tryd.underlying75 rfl rfl rfl rfl rfl rfl (fun _ => rfl) (by assumption) rfl) ?_))
     (first | (refine AN.rp (i := 7) (l' := #[true, true, true, true, true, true, true, true, false, false]) rfl rfl rfl (fun _ _ h => h) (by kernel_rfl) rfl (rp_nilCheck rfl rfl) ?_) | (refine AN.rp (i := 7) (l' := #[true, true, true, true, true, true, true, true, false, false]) rfl rfl rfl (fun _ _ h => h) (by kernel_rfl) rfl (rp_nilCheck_ad rfl rfl) ?_))
     (first | (refine AN.rp (i := 8) (l' := #[true, true, true, true, true, true, true, true, true, false]) rfl rfl rfl (fun _ _ h => h) (by kernel_rfl) rfl (rp_field_ref Tryd.underlying91 rfl rfl rfl inf89 (by decide) rfl) ?_) | (refine AN.rp (i := 8) (l' := #[true, true, true, true, true, true, true, true, true, false]) rfl rfl rfl (fun _ _ h => h) (by kernel_rfl) rfl (rp_field_ad Tryd.underlying91 rfl rfl rfl inf89 (by decide) rfl) ?_))
     refine AN.br1 (i := 9) (by kernel_rfl) ?_
     refine BR.mk (l' := #[true, true, true, true, true, true, true, true, true, true]) rfl rfl rfl ?_
     (first | (refine ST.st (st_store_map2 inf89 rfl rfl rfl rfl rfl rfl rfl rfl (by first | assumption | omega)) ?_) | (refine ST.st (st_store inf89 rfl rfl rfl rfl rfl rfl rfl (by first | decide | (simp; done)) rfl) ?_))
     refine AN.nil (by kernel_rfl) ?_
     show Less _ _
     (try simp only [S.put, S.newObj, setL, V.cs, List.length_cons, List.length_nil, List.take_succ_cons, List.take_zero, List.drop_succ_cons, List.drop_zero, List.drop_nil, List.nil_append, List.cons_append, List.append_nil, Nat.zero_add, Nat.reduceAdd, List.map_cons, List.map_nil, List.set_cons_zero, List.set_cons_succ])
     try simp only [S.dd, ddL, List.contains_cons, List.contains_nil, Nat.reduceBEq, beq_self_eq_true, Bool.or_false, Bool.or_true, Bool.false_or, Bool.true_or, Bool.or_self, if_true, if_false, Bool.false_eq_true, ↓reduceIte]
     exact (Less.of rfl (by repeat (first | exact trivial | refine ⟨⟨_, rfl, Wk.refl _⟩, ?_⟩)) (by repeat (first | exact trivial | refine ⟨rfl, ?_⟩)) rfl)
   ·refine BR.mk (l' := #[false, true, true, true, false, false, false, false, false, false]) rfl rfl rfl ?_
    (first | (refine ST.rd rfl (rd_load_ref Tryd.underlying75 rfl rfl rfl rfl rfl rfl) ?_) | (refine ST.rd rfl (rd_load_ad Tryd.underlying75 rfl rfl rfl rfl) ?_) | (refine ST.rd rfl (rd_load_map Tryd.underlying75 rfl rfl rfl rfl rfl rfl (by assumption)) ?_) | (refine ST.rd rfl (rd_load_flat Tryd.underlying75 rfl rfl rfl rfl rfl rfl (fun _ => rfl) (by assumption) rfl) ?_))
    refine AN.br1 (i := 0) (by kernel_rfl) ?_
    refine BR.mk (l' := #[true, true, true, true, false, false, false, false, false, false]) rfl rfl rfl ?_
    (first | (refine ST.rd rfl (rd_load_ref Tryd.underlying75 rfl rfl rfl rfl rfl rfl) ?_) | (refine ST.rd rfl (rd_load_ad Tryd.underlying75 rfl rfl rfl rfl) ?_) | (refine ST.rd rfl (rd_load_map Tryd.underlying75 rfl rfl rfl rfl rfl rfl (by assumption)) ?_) | (refine ST.rd rfl (rd_load_flat Tryd.underlying75 rfl rfl rfl rfl rfl rfl (fun _ => rfl) (by assumption) rfl) ?_))
    (first | (refine AN.rp (i := 4) (l' := #[true, true, true, true, true, false, false, false, false, false]) rfl rfl rfl (fun _ _ h => h) (by kernel_rfl) rfl (rp_nilCheck rfl rfl) ?_) | (refine AN.rp (i := 4) (l' := #[true, true, true, true, true, false, false, false, false, false]) rfl rfl rfl (fun _ _ h => h) (by kernel_rfl) rfl (rp_nilCheck_ad rfl rfl) ?_))
    (first | (refine AN.rp (i := 5) (l' := #[true, true, true, true, true, true, false, false, false, false]) rfl rfl rfl (fun _ _ h => h) (by kernel_rfl) rfl (rp_field_ref Tryd.underlying91 rfl rfl rfl inf88 (by decide) rfl) ?_) | (refine AN.rp (i := 5) (l' := #[true, true, true, true, true, true, false, false, false, false]) rfl rfl rfl (fun _ _ h => h) (by kernel_rfl) rfl (rp_field_ad Tryd.underlying91 rfl rfl rfl inf88 (by decide) rfl) ?_))
    refine AN.br1 (i := 6) (by kernel_rfl) ?_
    refine BR.mk (l' := #[true, true, true, true, true, true, true, false, false, false]) rfl rfl rfl ?_
    (first | (refine ST.st (st_store_map2 inf88 rfl rfl rfl rfl rfl rfl rfl rfl (by first | assumption | omega)) ?_) | (refine ST.st (st_store inf88 rfl rfl rfl rfl rfl rfl rfl (by first | decide | (simp; done)) rfl) ?_))
    (first | (refine AN.rp (i := 7) (l' := #[true, true, true, true, true, true, true, true, false, false]) rfl rfl rfl (fun _ _ h => h) (by kernel_rfl) rfl (rp_nilCheck rfl rfl) ?_) | (refine AN.rp (i := 7) (l' := #[true, true, true, true, true, true, true, true, false, false]) rfl rfl rfl (fun _ _ h => h) (by kernel_rfl) rfl (rp_nilCheck_ad rfl rfl) ?_))
    (first | (refine AN.rp (i := 8) (l' := #[true, true, true, true, true, true, true, true, true, false]) rfl rfl rfl (fun _ _ h => h) (by kernel_rfl) rfl (rp_field_ref Tryd.underlying91 rfl rfl rfl inf89 (by decide) rfl) ?_) | (refine AN.rp (i := 8) (l' := #[true, true, true, true, true, true, true, true, true, false]) rfl rfl rfl (fun _ _ h => h) (by kernel_rfl) rfl (rp_field_ad Tryd.underlying91 rfl rfl rfl inf89 (by decide) rfl) ?_))
    refine AN.br1 (i := 9) (by kernel_rfl) ?_
    refine BR.mk (l' := #[true, true, true, true, true, true, true, true, true, true]) rfl rfl rfl ?_
    (first | (refine ST.st (st_store_map2 inf89 rfl rfl rfl rfl rfl rfl rfl rfl (by first | assumption | omega)) ?_) | (refine ST.st (st_store inf89 rfl rfl rfl rfl rfl rfl rfl (by first | decide | (simp; done)) rfl) ?_))
    refine AN.nil (by kernel_rfl) ?_
    show Less _ _
    (try simp only [S.put, S.newObj, setL, V.cs, List.length_cons, List.length_nil, List.take_succ_cons, List.take_zero, List.drop_succ_cons, List.drop_zero, List.drop_nil, List.nil_append, List.cons_append, List.append_nil, Nat.zero_add, Nat.reduceAdd, List.map_cons, List.map_nil, List.set_cons_zero, List.set_cons_succ])
    try simp only [S.dd, ddL, List.contains_cons, List.contains_nil, Nat.reduceBEq, beq_self_eq_true, Bool.or_false, Bool.or_true, Bool.false_or, Bool.true_or, Bool.or_self, if_true, if_false, Bool.false_eq_true, ↓reduceIte]
    exact (Less.of rfl (by repeat (first | exact trivial | refine ⟨⟨_, rfl, Wk.refl _⟩, ?_⟩)) (by repeat (first | exact trivial | refine ⟨rfl, ?_⟩)) rfl)
 ·refine BR.mk (l' := #[false, false, false, true, false, false, false, false, false, false]) rfl rfl rfl ?_
  (first | (refine ST.sm (sm_makeMap2 false 5 810 811 rfl (by first | rfl | simp [S.clean, S.put, S.newObj, S.forget, V.has, V.hasL, junkIf, setL, V.cs, hasL_i, hasL_vd, hasL_vdt, hasL_d, hasL_b, hasL_s, hasL_n, hasL_rep, hasL_flat, hasL_append, -List.map_set]) rfl rfl rfl) ?_) | (refine ST.sm (sm_makeMap 811 rfl (by first | rfl | simp [S.clean, S.put, S.newObj, S.forget, V.has, V.hasL, junkIf, setL, V.cs, hasL_i, hasL_vd, hasL_vdt, hasL_d, hasL_b, hasL_s, hasL_n, hasL_rep, hasL_flat, hasL_append, -List.map_set]) rfl) ?_))
  try simp only [S.put, List.map_cons, List.map_nil, rowMap, to2_d, to2_ref, to2_own, to2_junk, to2_F, to2_T, List.getElem_toArray, List.getElem_cons_zero, List.getElem_cons_succ, List.set_cons_zero, List.set_cons_succ, Bool.not_true, Bool.not_false, if_true, if_false, Bool.false_eq_true, ↓reduceIte]
  refine AN.br3 (i := 0) (j := 1) (k := 2) (by kernel_rfl) ?_ ?_ ?_
  ·refine BR.mk (l' := #[true, false, false, true, false, false, false, false, false, false]) rfl rfl rfl ?_
   (first | (refine ST.rd rfl (rd_load_ref Tryd.underlying75 rfl rfl rfl rfl rfl rfl) ?_) | (refine ST.rd rfl (rd_load_ad Tryd.underlying75 rfl rfl rfl rfl) ?_) | (refine ST.rd rfl (rd_load_map Tryd.underlying75 rfl rfl rfl rfl rfl rfl (by assumption)) ?_) | (refine ST.rd rfl (rd_load_flat Tryd.underlying75 rfl rfl rfl rfl rfl rfl (fun _ => rfl) (by assumption) rfl) ?_))
   refine AN.br2 (i := 1) (j := 2) (by kernel_rfl) ?_ ?_
   ·refine BR.mk (l' := #[true, true, false, true, false, false, false, false, false, false]) rfl rfl rfl ?_
    (first | (refine ST.rd rfl (rd_load_ref Tryd.underlying75 rfl rfl rfl rfl rfl rfl) ?_) | (refine ST.rd rfl (rd_load_ad Tryd.underlying75 rfl rfl rfl rfl) ?_) | (refine ST.rd rfl (rd_load_map Tryd.underlying75 rfl rfl rfl rfl rfl rfl (by assumption)) ?_) | (refine ST.rd rfl (rd_load_flat Tryd.underlying75 rfl rfl rfl rfl rfl rfl (fun _ => rfl) (by assumption) rfl) ?_))
    refine AN.br1 (i := 2) (by kernel_rfl) ?_
    refine BR.mk (l' := #[true, true, true, true, false, false, false, false, false, false]) rfl rfl rfl ?_
    (first | (refine ST.sm (sm_makeMap2 true 6 810 811 rfl (by first | rfl | simp [S.clean, S.put, S.newObj, S.forget, V.has, V.hasL, junkIf, setL, V.cs, hasL_i, hasL_vd, hasL_vdt, hasL_d, hasL_b, hasL_s, hasL_n, hasL_rep, hasL_flat, hasL_append, -List.map_set]) rfl rfl rfl) ?_) | (refine ST.sm (sm_makeMap 810 rfl (by first | rfl | simp [S.clean, S.put, S.newObj, S.forget, V.has, V.hasL, junkIf, setL, V.cs, hasL_i, hasL_vd, hasL_vdt, hasL_d, hasL_b, hasL_s, hasL_n, hasL_rep, hasL_flat, hasL_append, -List.map_set]) rfl) ?_))
    try simp only [S.put, List.map_cons, List.map_nil, rowMap, to2_d, to2_ref, to2_own, to2_junk, to2_F, to2_T, List.getElem_toArray, List.getElem_cons_zero, List.getElem_cons_succ, List.set_cons_zero, List.set_cons_succ, Bool.not_true, Bool.not_false, if_true, if_false, Bool.false_eq_true, ↓reduceIte]
    (first | (refine AN.rp (i := 4) (l' := #[true, true, true, true, true, false, false, false, false, false]) rfl rfl rfl (fun _ _ h => h) (by kernel_rfl) rfl (rp_nilCheck rfl rfl) ?_) | (refine AN.rp (i := 4) (l' := #[true, true, true, true, true, false, false, false, false, false]) rfl rfl rfl (fun _ _ h => h) (by kernel_rfl) rfl (rp_nilCheck_ad rfl rfl) ?_))
    (first | (refine AN.rp (i := 5) (l' := #[true, true, true, true, true, true, false, false, false, false]) rfl rfl rfl (fun _ _ h => h) (by kernel_rfl) rfl (rp_field_ref Tryd.underlying91 rfl rfl rfl inf88 (by decide) rfl) ?_) | (refine AN.rp (i := 5) (l' := #[true, true, true, true, true, true, false, false, false, false]) rfl rfl rfl (fun _ _ h => h) (by kernel_rfl) rfl (rp_field_ad Tryd.underlying91 rfl rfl rfl inf88 (by decide) rfl) ?_))
    refine AN.br1 (i := 6) (by kernel_rfl) ?_
    refine BR.mk (l' := #[true, true, true, true, true, true, true, false, false, false]) rfl rfl rfl ?_
    (first | (refine ST.st (st_store_map2 inf88 rfl rfl rfl rfl rfl rfl rfl rfl (by first | assumption | omega)) ?_) | (refine ST.st (st_store inf88 rfl rfl rfl rfl rfl rfl rfl (by first | decide | (simp; done)) rfl) ?_))
    (first | (refine AN.rp (i := 7) (l' := #[true, true, true, true, true, true, true, true, false, false]) rfl rfl rfl (fun _ _ h => h) (by kernel_rfl) rfl (rp_nilCheck rfl rfl) ?_) | (refine AN.rp (i := 7) (l' := #[true, true, true, true, true, true, true, true, false, false]) rfl rfl rfl (fun _ _ h => h) (by kernel_rfl) rfl (rp_nilCheck_ad rfl rfl) ?_))
    (first | (refine AN.rp (i := 8) (l' := #[true, true, true, true, true, true, true, true, true, false]) rfl rfl rfl (fun _ _ h => h) (by kernel_rfl) rfl (rp_field_ref Tryd.underlying91 rfl rfl rfl inf89 (by decide) rfl) ?_) | (refine AN.rp (i := 8) (l' := #[true, true, true, true, true, true, true, true, true, false]) rfl rfl rfl (fun _ _ h => h) (by kernel_rfl) rfl (rp_field_ad Tryd.underlying91 rfl rfl rfl inf89 (by decide) rfl) ?_))
    refine AN.br1 (i := 9) (by kernel_rfl) ?_
    refine BR.mk (l' := #[true, true, true, true, true, true, true, true, true, true]) rfl rfl rfl ?_
    (first | (refine ST.st (st_store_map2 inf89 rfl rfl rfl rfl rfl rfl rfl rfl (by first | assumption | omega)) ?_) | (refine ST.st (st_store inf89 rfl rfl rfl rfl rfl rfl rfl (by first | decide | (simp; done)) rfl) ?_))
    refine AN.nil (by kernel_rfl) ?_
    show Less _ _
    (try simp only [S.put, S.newObj, setL, V.cs, List.length_cons, List.length_nil, List.take_succ_cons, List.take_zero, List.drop_succ_cons, List.drop_zero, List.drop_nil, List.nil_append, List.cons_append, List.append_nil, Nat.zero_add, Nat.reduceAdd, List.map_cons, List.map_nil, List.set_cons_zero, List.set_cons_succ])
    try simp only [S.dd, ddL, List.contains_cons, List.contains_nil, Nat.reduceBEq, beq_self_eq_true, Bool.or_false, Bool.or_true, Bool.false_or, Bool.true_or, Bool.or_self, if_true, if_false, Bool.false_eq_true, ↓reduceIte]
    exact (Less.of rfl (by repeat (first | exact trivial | refine ⟨⟨_, rfl, Wk.refl _⟩, ?_⟩)) (by repeat (first | exact trivial | refine ⟨rfl, ?_⟩)) rfl)
   ·refine BR.mk (l' := #[true, false, true, true, false, false, false, false, false, false]) rfl rfl rfl ?_
    (first | (refine ST.sm (sm_makeMap2 true 6 810 811 rfl (by first | rfl | simp [S.clean, S.put, S.newObj, S.forget, V.has, V.hasL, junkIf, setL, V.cs, hasL_i, hasL_vd, hasL_vdt, hasL_d, hasL_b, hasL_s, hasL_n, hasL_rep, hasL_flat, hasL_append, -List.map_set]) rfl rfl rfl) ?_) | (refine ST.sm (sm_makeMap 810 rfl (by first | rfl | simp [S.clean, S.put, S.newObj, S.forget, V.has, V.hasL, junkIf, setL, V.cs, hasL_i, hasL_vd, hasL_vdt, hasL_d, hasL_b, hasL_s, hasL_n, hasL_rep, hasL_flat, hasL_append, -List.map_set]) rfl) ?_))
    try simp only [S.put, List.map_cons, List.map_nil, rowMap, to2_d, to2_ref, to2_own, to2_junk, to2_F, to2_T, List.getElem_toArray, List.getElem_cons_zero, List.getElem_cons_succ, List.set_cons_zero, List.set_cons_succ, Bool.not_true, Bool.not_false, if_true, if_false, Bool.false_eq_true, ↓reduceIte]
    (first | (refine AN.rp (i := 4) (l' := #[true, false, true, true, true, false, false, false, false, false]) rfl rfl rfl (fun _ _ h => h) (by kernel_rfl) rfl (rp_nilCheck rfl rfl) ?_) | (refine AN.rp (i := 4) (l' := #[true, false, true, true, true, false, false, false, false, false]) rfl rfl rfl (fun _ _ h => h) (by kernel_rfl) rfl (rp_nilCheck_ad rfl rfl) ?_))
    (first | (refine AN.rp (i := 5) (l' := #[true, false, true, true, true, true, false, false, false, false]) rfl rfl rfl (fun _ _ h => h) (by kernel_rfl) rfl (rp_field_ref Tryd.underlying91 rfl rfl rfl inf88 (by decide) rfl) ?_) | (refine AN.rp (i := 5) (l' := #[true, false, true, true, true, true, false, false, false, false]) rfl rfl rfl (fun _ _ h => h) (by kernel_rfl) rfl (rp_field_ad Tryd.underlying91 rfl rfl rfl inf88 (by decide) rfl) ?_))
    refine AN.br2 (i := 1) (j := 6) (by kernel_rfl) ?_ ?_
    ·refine BR.mk (l' := #[true, true, true, true, true, true, false, false, false, false]) rfl rfl rfl ?_
     (first | (refine ST.rd rfl (rd_load_ref Tryd.underlying75 rfl rfl rfl rfl rfl rfl) ?_) | (refine ST.rd rfl (rd_load_ad Tryd.underlying75 rfl rfl rfl rfl) ?_) | (refine ST.rd rfl (rd_load_map Tryd.underlying75 rfl rfl rfl rfl rfl rfl (by assumption)) ?_) | (refine ST.rd rfl (rd_load_flat Tryd.underlying75 rfl rfl rfl rfl rfl rfl (fun _ => rfl) (by assumption) rfl) ?_))
     refine AN.br1 (i := 6) (by kernel_rfl) ?_
     refine BR.mk (l' := #[true, true, true, true, true, true, true, false, false, false]) rfl rfl rfl ?_
     (first | (refine ST.st (st_store_map2 inf88 rfl rfl rfl rfl rfl rfl rfl rfl (by first | assumption | omega)) ?_) | (refine ST.st (st_store inf88 rfl rfl rfl rfl rfl rfl rfl (by first | decide | (simp; done)) rfl) ?_))
     (first | (refine AN.rp (i := 7) (l' := #[true, true, true, true, true, true, true, true, false, false]) rfl rfl rfl (fun _ _ h => h) (by kernel_rfl) rfl (rp_nilCheck rfl rfl) ?_) | (refine AN.rp (i := 7) (l' := #[true, true, true, true, true, true, true, true, false, false]) rfl rfl rfl (fun _ _ h => h) (by kernel_rfl) rfl (rp_nilCheck_ad rfl rfl) ?_))
     (first | (refine AN.rp (i := 8) (l' := #[true, true, true, true, true, true, true, true, true, false]) rfl rfl rfl (fun _ _ h => h) (by kernel_rfl) rfl (rp_field_ref Tryd.underlying91 rfl rfl rfl inf89 (by decide) rfl) ?_) | (refine AN.rp (i := 8) (l' := #[true, true, true, true, true, true, true, true, true, false]) rfl rfl rfl (fun _ _ h => h) (by kernel_rfl) rfl (rp_field_ad Tryd.underlying91 rfl rfl rfl inf89 (by decide) rfl) ?_))
     refine AN.br1 (i := 9) (by kernel_rfl) ?_
     refine BR.mk (l' := #[true, true, true, true, true, true, true, true, true, true]) rfl rfl rfl ?_
     (first | (refine ST.st (st_store_map2 inf89 rfl rfl rfl rfl rfl rfl rfl rfl (by first | assumption | omega)) ?_) | (refine ST.st (st_store inf89 rfl rfl rfl rfl rfl rfl rfl (by first | decide | (simp; done)) rfl) ?_))
     refine AN.nil (by kernel_rfl) ?_
     show Less _ _
     (try simp only [S.put, S.newObj, setL, V.cs, List.length_cons, List.length_nil, List.take_succ_cons, List.take_zero, List.drop_succ_cons, List.drop_zero, List.drop_nil, List.nil_append, List.cons_append, List.append_nil, Nat.zero_add, Nat.reduceAdd, List.map_cons, List.map_nil, List.set_cons_zero, List.set_cons_succ])
     try simp only [S.dd, ddL, List.contains_cons, List.contains_nil, Nat.reduceBEq, beq_self_eq_true, Bool.or_false, Bool.or_true, Bool.false_or, Bool.true_or, Bool.or_self, if_true, if_false, Bool.false_eq_true, ↓reduceIte]
     exact (Less.of rfl (by repeat (first | exact trivial | refine ⟨⟨_, rfl, Wk.refl _⟩, ?_⟩)) (by repeat (first | exact trivial | refine ⟨rfl, ?_⟩)) rfl)
    ·refine BR.mk (l' := #[true, false, true, true, true, true, true, false, false, false]) rfl rfl rfl ?_
     (first | (refine ST.st (st_store_map2 inf88 rfl rfl rfl rfl rfl rfl rfl rfl (by first | assumption | omega)) ?_) | (refine ST.st (st_store inf88 rfl rfl rfl rfl rfl rfl rfl (by first | decide | (simp; done)) rfl) ?_))
     refine AN.br1 (i := 1) (by kernel_rfl) ?_
     refine BR.mk (l' := #[true, true, true, true, true, true, true, false, false, false]) rfl rfl rfl ?_
     (first | (refine ST.rd rfl (rd_load_ref Tryd.underlying75 rfl rfl rfl rfl rfl rfl) ?_) | (refine ST.rd rfl (rd_load_ad Tryd.underlying75 rfl rfl rfl rfl) ?_) | (refine ST.rd rfl (rd_load_map Tryd.underlying75 rfl rfl rfl rfl rfl rfl (by assumption)) ?_) | (refine ST.rd rfl (rd_load_flat Tryd.underlying75 rfl rfl rfl rfl rfl rfl (fun _ => rfl) (by assumption) rfl) ?_))
     (first | (refine AN.rp (i := 7) (l' := #[true, true, true, true, true, true, true, true, false, false]) rfl rfl rfl (fun _ _ h => h) (by kernel_rfl) rfl (rp_nilCheck rfl rfl) ?_) | (refine AN.rp (i := 7) (l' := #[true, true, true, true, true, true, true, true, false, false]) rfl rfl rfl (fun _ _ h => h) (by kernel_rfl) rfl (rp_nilCheck_ad rfl rfl) ?_))
     (first | (refine AN.rp (i := 8) (l' := #[true, true, true, true, true, true, true, true, true, false]) rfl rfl rfl (fun _ _ h => h) (by kernel_rfl) rfl (rp_field_ref Tryd.underlying91 rfl rfl rfl inf89 (by decide) rfl) ?_) | (refine AN.rp (i := 8) (l' := #[true, true, true, true, true, true, true, true, true, false]) rfl rfl rfl (fun _ _ h => h) (by kernel_rfl) rfl (rp_field_ad Tryd.underlying91 rfl rfl rfl inf89 (by decide) rfl) ?_))
     refine AN.br1 (i := 9) (by kernel_rfl) ?_
     refine BR.mk (l' := #[true, true, true, true, true, true, true, true, true, true]) rfl rfl rfl ?_
     (first | (refine ST.st (st_store_map2 inf89 rfl rfl rfl rfl rfl rfl rfl rfl (by first | assumption | omega)) ?_) | (refine ST.st (st_store inf89 rfl rfl rfl rfl rfl rfl rfl (by first | decide | (simp; done)) rfl) ?_))
     refine AN.nil (by kernel_rfl) ?_
     show Less _ _
     (try simp only [S.put, S.newObj, setL, V.cs, List.length_cons, List.length_nil, List.take_succ_cons, List.take_zero, List.drop_succ_cons, List.drop_zero, List.drop_nil, List.nil_append, List.cons_append, List.append_nil, Nat.zero_add, Nat.reduceAdd, List.map_cons, List.map_nil, List.set_cons_zero, List.set_cons_succ])
     try simp only [S.dd, ddL, List.contains_cons, List.contains_nil, Nat.reduceBEq, beq_self_eq_true, Bool.or_false, Bool.or_true, Bool.false_or, Bool.true_or, Bool.or_self, if_true, if_false, Bool.false_eq_true, ↓reduceIte]
     exact (Less.of rfl (by repeat (first | exact trivial | refine ⟨⟨_, rfl, Wk.refl _⟩, ?_⟩)) (by repeat (first | exact trivial | refine ⟨rfl, ?_⟩)) rfl)
  ·refine BR.mk (l' := #[false, true, false, true, false, false, false, false, false, false]) rfl rfl rfl ?_
   (first | (refine ST.rd rfl (rd_load_ref Tryd.underlying75 rfl rfl rfl rfl rfl rfl) ?_) | (refine ST.rd rfl (rd_load_ad Tryd.underlying75 rfl rfl rfl rfl) ?_) | (refine ST.rd rfl (rd_load_map Tryd.underlying75 rfl rfl rfl rfl rfl rfl (by assumption)) ?_) | (refine ST.rd rfl (rd_load_flat Tryd.underlying75 rfl rfl rfl rfl rfl rfl (fun _ => rfl) (by assumption) rfl) ?_))
   refine AN.br2 (i := 0) (j := 2) (by kernel_rfl) ?_ ?_
   ·refine BR.mk (l' := #[true, true, false, true, false, false, false, false, false, false]) rfl rfl rfl ?_
    (first | (refine ST.rd rfl (rd_load_ref Tryd.underlying75 rfl rfl rfl rfl rfl rfl) ?_) | (refine ST.rd rfl (rd_load_ad Tryd.underlying75 rfl rfl rfl rfl) ?_) | (refine ST.rd rfl (rd_load_map Tryd.underlying75 rfl rfl rfl rfl rfl rfl (by assumption)) ?_) | (refine ST.rd rfl (rd_load_flat Tryd.underlying75 rfl rfl rfl rfl rfl rfl (fun _ => rfl) (by assumption) rfl) ?_))
    refine AN.br1 (i := 2) (by kernel_rfl) ?_
    refine BR.mk (l' := #[true, true, true, true, false, false, false, false, false, false]) rfl rfl rfl ?_
    (first | (refine ST.sm (sm_makeMap2 true 6 810 811 rfl (by first | rfl | simp [S.clean, S.put, S.newObj, S.forget, V.has, V.hasL, junkIf, setL, V.cs, hasL_i, hasL_vd, hasL_vdt, hasL_d, hasL_b, hasL_s, hasL_n, hasL_rep, hasL_flat, hasL_append, -List.map_set]) rfl rfl rfl) ?_) | (refine ST.sm (sm_makeMap 810 rfl (by first | rfl | simp [S.clean, S.put, S.newObj, S.forget, V.has, V.hasL, junkIf, setL, V.cs, hasL_i, hasL_vd, hasL_vdt, hasL_d, hasL_b, hasL_s, hasL_n, hasL_rep, hasL_flat, hasL_append, -List.map_set]) rfl) ?_))
    try simp only [S.put, List.map_cons, List.map_nil, rowMap, to2_d, to2_ref, to2_own, to2_junk, to2_F, to2_T, List.getElem_toArray, List.getElem_cons_zero, List.getElem_cons_succ, List.set_cons_zero, List.set_cons_succ, Bool.not_true, Bool.not_false, if_true, if_false, Bool.false_eq_true, ↓reduceIte]
    (first | (refine AN.rp (i := 4) (l' := #[true, true, true, true, true, false, false, false, false, false]) rfl rfl rfl (fun _ _ h => h) (by kernel_rfl) rfl (rp_nilCheck rfl rfl) ?_) | (refine AN.rp (i := 4) (l' := #[true, true, true, true, true, false, false, false, false, false]) rfl rfl rfl (fun _ _ h => h) (by kernel_rfl) rfl (rp_nilCheck_ad rfl rfl) ?_))
    (first | (refine AN.rp (i := 5) (l' := #[true, true, true, true, true, true, false, false, false, false]) rfl rfl rfl (fun _ _ h => h) (by kernel_rfl) rfl (rp_field_ref Tryd.underlying91 rfl rfl rfl inf88 (by decide) rfl) ?_) | (refine AN.rp (i := 5) (l' := #[true, true, true, true, true, true, false, false, false, false]) rfl rfl rfl (fun _ _ h => h) (by kernel_rfl) rfl (rp_field_ad Tryd.underlying91 rfl rfl rfl inf88 (by decide) rfl) ?_))
    refine AN.br1 (i := 6) (by kernel_rfl) ?_
    refine BR.mk (l' := #[true, true, true, true, true, true, true, false, false, false]) rfl rfl rfl ?_
    (first | (refine ST.st (st_store_map2 inf88 rfl rfl rfl rfl rfl rfl rfl rfl (by first | assumption | omega)) ?_) | (refine ST.st (st_store inf88 rfl rfl rfl rfl rfl rfl rfl (by first | decide | (simp; done)) rfl) ?_))
    (first | (refine AN.rp (i := 7) (l' := #[true, true, true, true, true, true, true, true, false, false]) rfl rfl rfl (fun _ _ h => h) (by kernel_rfl) rfl (rp_nilCheck rfl rfl) ?_) | (refine AN.rp (i := 7) (l' := #[true, true, true, true, true, true, true, true, false, false]) rfl rfl rfl (fun _ _ h => h) (by kernel_rfl) rfl (rp_nilCheck_ad rfl rfl) ?_))
    (first | (refine AN.rp (i := 8) (l' := #[true, true, true, true, true, true, true, true, true, false]) rfl rfl rfl (fun _ _ h => h) (by kernel_rfl) rfl (rp_field_ref Tryd.underlying91 rfl rfl rfl inf89 (by decide) rfl) ?_) | (refine AN.rp (i := 8) (l' := #[true, true, true, true, true, true, true, true, true, false]) rfl rfl rfl (fun _ _ h => h) (by kernel_rfl) rfl (rp_field_ad Tryd.underlying91 rfl rfl rfl inf89 (by decide) rfl) ?_))
    refine AN.br1 (i := 9) (by kernel_rfl) ?_
    refine BR.mk (l' := #[true, true, true, true, true, true, true, true, true, true]) rfl rfl rfl ?_
    (first | (refine ST.st (st_store_map2 inf89 rfl rfl rfl rfl rfl rfl rfl rfl (by first | assumption | omega)) ?_) | (refine ST.st (st_store inf89 rfl rfl rfl rfl rfl rfl rfl (by first | decide | (simp; done)) rfl) ?_))
    refine AN.nil (by kernel_rfl) ?_
    show Less _ _
    (try simp only [S.put, S.newObj, setL, V.cs, List.length_cons, List.length_nil, List.take_succ_cons, List.take_zero, List.drop_succ_cons, List.drop_zero, List.drop_nil, List.nil_append, List.cons_append, List.append_nil, Nat.zero_add, Nat.reduceAdd, List.map_cons, List.map_nil, List.set_cons_zero, List.set_cons_succ])
    try simp only [S.dd, ddL, List.contains_cons, List.contains_nil, Nat.reduceBEq, beq_self_eq_true, Bool.or_false, Bool.or_true, Bool.false_or, Bool.true_or, Bool.or_self, if_true, if_false, Bool.false_eq_true, ↓reduceIte]
    exact (Less.of rfl (by repeat (first | exact trivial | refine ⟨⟨_, rfl, Wk.refl _⟩, ?_⟩)) (by repeat (first | exact trivial | refine ⟨rfl, ?_⟩)) rfl)
   ·refine BR.mk (l' := #[false, true, true, true, false, false, false, false, false, false]) rfl rfl rfl ?_
    (first | (refine ST.sm (sm_makeMap2 true 6 810 811 rfl (by first | rfl | simp [S.clean, S.put, S.newObj, S.forget, V.has, V.hasL, junkIf, setL, V.cs, hasL_i, hasL_vd, hasL_vdt, hasL_d, hasL_b, hasL_s, hasL_n, hasL_rep, hasL_flat, hasL_append, -List.map_set]) rfl rfl rfl) ?_) | (refine ST.sm (sm_makeMap 810 rfl (by first | rfl | simp [S.clean, S.put, S.newObj, S.forget, V.has, V.hasL, junkIf, setL, V.cs, hasL_i, hasL_vd, hasL_vdt, hasL_d, hasL_b, hasL_s, hasL_n, hasL_rep, hasL_flat, hasL_append, -List.map_set]) rfl) ?_))
    try simp only [S.put, List.map_cons, List.map_nil, rowMap, to2_d, to2_ref, to2_own, to2_junk, to2_F, to2_T, List.getElem_toArray, List.getElem_cons_zero, List.getElem_cons_succ, List.set_cons_zero, List.set_cons_succ, Bool.not_true, Bool.not_false, if_true, if_false, Bool.false_eq_true, ↓reduceIte]
    refine AN.br1 (i := 0) (by kernel_rfl) ?_
    refine BR.mk (l' := #[true, true, true, true, false, false, false, false, false, false]) rfl rfl rfl ?_
    (first | (refine ST.rd rfl (rd_load_ref Tryd.underlying75 rfl rfl rfl rfl rfl rfl) ?_) | (refine ST.rd rfl (rd_load_ad Tryd.underlying75 rfl rfl rfl rfl) ?_) | (refine ST.rd rfl (rd_load_map Tryd.underlying75 rfl rfl rfl rfl rfl rfl (by assumption)) ?_) | (refine ST.rd rfl (rd_load_flat Tryd.underlying75 rfl rfl rfl rfl rfl rfl (fun _ => rfl) (by assumption) rfl) ?_))
    (first | (refine AN.rp (i := 4) (l' := #[true, true, true, true, true, false, false, false, false, false]) rfl rfl rfl (fun _ _ h => h) (by kernel_rfl) rfl (rp_nilCheck rfl rfl) ?_) | (refine AN.rp (i := 4) (l' := #[true, true, true, true, true, false, false, false, false, false]) rfl rfl rfl (fun _ _ h => h) (by kernel_rfl) rfl (rp_nilCheck_ad rfl rfl) ?_))
    (first | (refine AN.rp (i := 5) (l' := #[true, true, true, true, true, true, false, false, false, false]) rfl rfl rfl (fun _ _ h => h) (by kernel_rfl) rfl (rp_field_ref Tryd.underlying91 rfl rfl rfl inf88 (by decide) rfl) ?_) | (refine AN.rp (i := 5) (l' := #[true, true, true, true, true, true, false, false, false, false]) rfl rfl rfl (fun _ _ h => h) (by kernel_rfl) rfl (rp_field_ad Tryd.underlying91 rfl rfl rfl inf88 (by decide) rfl) ?_))
    refine AN.br1 (i := 6) (by kernel_rfl) ?_
    refine BR.mk (l' := #[true, true, true, true, true, true, true, false, false, false]) rfl rfl rfl ?_
    (first | (refine ST.st (st_store_map2 inf88 rfl rfl rfl rfl rfl rfl rfl rfl (by first | assumption | omega)) ?_) | (refine ST.st (st_store inf88 rfl rfl rfl rfl rfl rfl rfl (by first | decide | (simp; done)) rfl) ?_))
    (first | (refine AN.rp (i := 7) (l' := #[true, true, true, true, true, true, true, true, false, false]) rfl rfl rfl (fun _ _ h => h) (by kernel_rfl) rfl (rp_nilCheck rfl rfl) ?_) | (refine AN.rp (i := 7) (l' := #[true, true, true, true, true, true, true, true, false, false]) rfl rfl rfl (fun _ _ h => h) (by kernel_rfl) rfl (rp_nilCheck_ad rfl rfl) ?_))
    (first | (refine AN.rp (i := 8) (l' := #[true, true, true, true, true, true, true, true, true, false]) rfl rfl rfl (fun _ _ h => h) (by kernel_rfl) rfl (rp_field_ref Tryd.underlying91 rfl rfl rfl inf89 (by decide) rfl) ?_) | (refine AN.rp (i := 8) (l' := #[true, true, true, true, true, true, true, true, true, false]) rfl rfl rfl (fun _ _ h => h) (by kernel_rfl) rfl (rp_field_ad Tryd.underlying91 rfl rfl rfl inf89 (by decide) rfl) ?_))
    refine AN.br1 (i := 9) (by kernel_rfl) ?_
    refine BR.mk (l' := #[true, true, true, true, true, true, true, true, true, true]) rfl rfl rfl ?_
    (first | (refine ST.st (st_store_map2 inf89 rfl rfl rfl rfl rfl rfl rfl rfl (by first | assumption | omega)) ?_) | (refine ST.st (st_store inf89 rfl rfl rfl rfl rfl rfl rfl (by first | decide | (simp; done)) rfl) ?_))
    refine AN.nil (by kernel_rfl) ?_
    show Less _ _
    (try simp only [S.put, S.newObj, setL, V.cs, List.length_cons, List.length_nil, List.take_succ_cons, List.take_zero, List.drop_succ_cons, List.drop_zero, List.drop_nil, List.nil_append, List.cons_append, List.append_nil, Nat.zero_add, Nat.reduceAdd, List.map_cons, List.map_nil, List.set_cons_zero, List.set_cons_succ])
    try simp only [S.dd, ddL, List.contains_cons, List.contains_nil, Nat.reduceBEq, beq_self_eq_true, Bool.or_false, Bool.or_true, Bool.false_or, Bool.true_or, Bool.or_self, if_true, if_false, Bool.false_eq_true, ↓reduceIte]
    exact (Less.of rfl (by repeat (first | exact trivial | refine ⟨⟨_, rfl, Wk.refl _⟩, ?_⟩)) (by repeat (first | exact trivial | refine ⟨rfl, ?_⟩)) rfl)
  ·refine BR.mk (l' := #[false, false, true, true, false, false, false, false, false, false]) rfl rfl rfl ?_
   (first | (refine ST.sm (sm_makeMap2 true 6 810 811 rfl (by first | rfl | simp [S.clean, S.put, S.newObj, S.forget, V.has, V.hasL, junkIf, setL, V.cs, hasL_i, hasL_vd, hasL_vdt, hasL_d, hasL_b, hasL_s, hasL_n, hasL_rep, hasL_flat, hasL_append, -List.map_set]) rfl rfl rfl) ?_) | (refine ST.sm (sm_makeMap 810 rfl (by first | rfl | simp [S.clean, S.put, S.newObj, S.forget, V.has, V.hasL, junkIf, setL, V.cs, hasL_i, hasL_vd, hasL_vdt, hasL_d, hasL_b, hasL_s, hasL_n, hasL_rep, hasL_flat, hasL_append, -List.map_set]) rfl) ?_))
   try simp only [S.put, List.map_cons, List.map_nil, rowMap, to2_d, to2_ref, to2_own, to2_junk, to2_F, to2_T, List.getElem_toArray, List.getElem_cons_zero, List.getElem_cons_succ, List.set_cons_zero, List.set_cons_succ, Bool.not_true, Bool.not_false, if_true, if_false, Bool.false_eq_true, ↓reduceIte]
   refine AN.br2 (i := 0) (j := 1) (by kernel_rfl) ?_ ?_
   ·refine BR.mk (l' := #[true, false, true, true, false, false, false, false, false, false]) rfl rfl rfl ?_
    (first | (refine ST.rd rfl (rd_load_ref Tryd.underlying75 rfl rfl rfl rfl rfl rfl) ?_) | (refine ST.rd rfl (rd_load_ad Tryd.underlying75 rfl rfl rfl rfl) ?_) | (refine ST.rd rfl (rd_load_map Tryd.underlying75 rfl rfl rfl rfl rfl rfl (by assumption)) ?_) | (refine ST.rd rfl (rd_load_flat Tryd.underlying75 rfl rfl rfl rfl rfl rfl (fun _ => rfl) (by assumption) rfl) ?_))
    (first | (refine AN.rp (i := 4) (l' := #[true, false, true, true, true, false, false, false, false, false]) rfl rfl rfl (fun _ _ h => h) (by kernel_rfl) rfl (rp_nilCheck rfl rfl) ?_) | (refine AN.rp (i := 4) (l' := #[true, false, true, true, true, false, false, false, false, false]) rfl rfl rfl (fun _ _ h => h) (by kernel_rfl) rfl (rp_nilCheck_ad rfl rfl) ?_))
    (first | (refine AN.rp (i := 5) (l' := #[true, false, true, true, true, true, false, false, false, false]) rfl rfl rfl (fun _ _ h => h) (by kernel_rfl) rfl (rp_field_ref Tryd.underlying91 rfl rfl rfl inf88 (by decide) rfl) ?_) | (refine AN.rp (i := 5) (l' := #[true, false, true, true, true, true, false, false, false, false]) rfl rfl rfl (fun _ _ h => h) (by kernel_rfl) rfl (rp_field_ad Tryd.underlying91 rfl rfl rfl inf88 (by decide) rfl) ?_))
    refine AN.br2 (i := 1) (j := 6) (by kernel_rfl) ?_ ?_
    ·refine BR.mk (l' := #[true, true, true, true, true, true, false, false, false, false]) rfl rfl rfl ?_
     (first | (refine ST.rd rfl (rd_load_ref Tryd.underlying75 rfl rfl rfl rfl rfl rfl) ?_) | (refine ST.rd rfl (rd_load_ad Tryd.underlying75 rfl rfl rfl rfl) ?_) | (refine ST.rd rfl (rd_load_map Tryd.underlying75 rfl rfl rfl rfl rfl rfl (by assumption)) ?_) | (refine ST.rd rfl (rd_load_flat Tryd.underlying75 rfl rfl rfl rfl rfl rfl (fun _ => rfl) (by assumption) rfl) ?_))
     refine AN.br1 (i := 6) (by kernel_rfl) ?_
     refine BR.mk (l' := #[true, true, true, true, true, true, true, false, false, false]) rfl rfl rfl ?_
     (first | (refine ST.st (st_store_map2 inf88 rfl rfl rfl rfl rfl rfl rfl rfl (by first | assumption | omega)) ?_) | (refine ST.st (st_store inf88 rfl rfl rfl rfl rfl rfl rfl (by first | decide | (simp; done)) rfl) ?_))
     (first | (refine AN.rp (i := 7) (l' := #[true, true, true, true, true, true, true, true, false, false]) rfl rfl rfl (fun _ _ h => h) (by kernel_rfl) rfl (rp_nilCheck rfl rfl) ?_) | (refine AN.rp (i := 7) (l' := #[true, true, true, true, true, true, true, true, false, false]) rfl rfl rfl (fun _ _ h => h) (by kernel_rfl) rfl (rp_nilCheck_ad rfl rfl) ?_))
     (first | (refine AN.rp (i := 8) (l' := #[true, true, true, true, true, true, true, true, true, false]) rfl rfl rfl (fun _ _ h => h) (by kernel_rfl) rfl (rp_field_ref Tryd.underlying91 rfl rfl rfl inf89 (by decide) rfl) ?_) | (refine AN.rp (i := 8) (l' := #[true, true, true, true, true, true, true, true, true, false]) rfl rfl rfl (fun _ _ h => h) (by kernel_rfl) rfl (rp_field_ad Tryd.underlying91 rfl rfl rfl inf89 (by decide) rfl) ?_))
     refine AN.br1 (i := 9) (by kernel_rfl) ?_
     refine BR.mk (l' := #[true, true, true, true, true, true, true, true, true, true]) rfl rfl rfl ?_
     (first | (refine ST.st (st_store_map2 inf89 rfl rfl rfl rfl rfl rfl rfl rfl (by first | assumption | omega)) ?_) | (refine ST.st (st_store inf89 rfl rfl rfl rfl rfl rfl rfl (by first | decide | (simp; done)) rfl) ?_))
     refine AN.nil (by kernel_rfl) ?_
     show Less _ _
     (try simp only [S.put, S.newObj, setL, V.cs, List.length_cons, List.length_nil, List.take_succ_cons, List.take_zero, List.drop_succ_cons, List.drop_zero, List.drop_nil, List.nil_append, List.cons_append, List.append_nil, Nat.zero_add, Nat.reduceAdd, List.map_cons, List.map_nil, List.set_cons_zero, List.set_cons_succ])
     try simp only [S.dd, ddL, List.contains_cons, List.contains_nil, Nat.reduceBEq, beq_self_eq_true, Bool.or_false, Bool.or_true, Bool.false_or, Bool.true_or, Bool.or_self, if_true, if_false, Bool.false_eq_true, ↓reduceIte]
     exact (Less.of rfl (by repeat (first | exact trivial | refine ⟨⟨_, rfl, Wk.refl _⟩, ?_⟩)) (by repeat (first | exact trivial | refine ⟨rfl, ?_⟩)) rfl)
    ·refine BR.mk (l' := #[true, false, true, true, true, true, true, false, false, false]) rfl rfl rfl ?_
     (first | (refine ST.st (st_store_map2 inf88 rfl rfl rfl rfl rfl rfl rfl rfl (by first | assumption | omega)) ?_) | (refine ST.st (st_store inf88 rfl rfl rfl rfl rfl rfl rfl (by first | decide | (simp; done)) rfl) ?_))
     refine AN.br1 (i := 1) (by kernel_rfl) ?_
     refine BR.mk (l' := #[true, true, true, true, true, true, true, false, false, false]) rfl rfl rfl ?_
     (first | (refine ST.rd rfl (rd_load_ref Tryd.underlying75 rfl rfl rfl rfl rfl rfl) ?_) | (refine ST.rd rfl (rd_load_ad Tryd.underlying75 rfl rfl rfl rfl) ?_) | (refine ST.rd rfl (rd_load_map Tryd.underlying75 rfl rfl rfl rfl rfl rfl (by assumption)) ?_) | (refine ST.rd rfl (rd_load_flat Tryd.underlying75 rfl rfl rfl rfl rfl rfl (fun _ => rfl) (by assumption) rfl) ?_))
     (first | (refine AN.rp (i := 7) (l' := #[true, true, true, true, true, true, true, true, false, false]) rfl rfl rfl (fun _ _ h => h) (by kernel_rfl) rfl (rp_nilCheck rfl rfl) ?_) | (refine AN.rp (i := 7) (l' := #[true, true, true, true, true, true, true, true, false, false]) rfl rfl rfl (fun _ _ h => h) (by kernel_rfl) rfl (rp_nilCheck_ad rfl rfl) ?_))
     (first | (refine AN.rp (i := 8) (l' := #[true, true, true, true, true, true, true, true, true, false]) rfl rfl rfl (fun _ _ h => h) (by kernel_rfl) rfl (rp_field_ref Tryd.underlying91 rfl rfl rfl inf89 (by decide) rfl) ?_) | (refine AN.rp (i := 8) (l' := #[true, true, true, true, true, true, true, true, true, false]) rfl rfl rfl (fun _ _ h => h) (by kernel_rfl) rfl (rp_field_ad Tryd.underlying91 rfl rfl rfl inf89 (by decide) rfl) ?_))
     refine AN.br1 (i := 9) (by kernel_rfl) ?_
     refine BR.mk (l' := #[true, true, true, true, true, true, true, true, true, true]) rfl rfl rfl ?_
     (first | (refine ST.st (st_store_map2 inf89 rfl rfl rfl rfl rfl rfl rfl rfl (by first | assumption | omega)) ?_) | (refine ST.st (st_store inf89 rfl rfl rfl rfl rfl rfl rfl (by first | decide | (simp; done)) rfl) ?_))
     refine AN.nil (by kernel_rfl) ?_
     show Less _ _
     (try simp only [S.put, S.newObj, setL, V.cs, List.length_cons, List.length_nil, List.take_succ_cons, List.take_zero, List.drop_succ_cons, List.drop_zero, List.drop_nil, List.nil_append, List.cons_append, List.append_nil, Nat.zero_add, Nat.reduceAdd, List.map_cons, List.map_nil, List.set_cons_zero, List.set_cons_succ])
     try simp only [S.dd, ddL, List.contains_cons, List.contains_nil, Nat.reduceBEq, beq_self_eq_true, Bool.or_false, Bool.or_true, Bool.false_or, Bool.true_or, Bool.or_self, if_true, if_false, Bool.false_eq_true, ↓reduceIte]
     exact (Less.of rfl (by repeat (first | exact trivial | refine ⟨⟨_, rfl, Wk.refl _⟩, ?_⟩)) (by repeat (first | exact trivial | refine ⟨rfl, ?_⟩)) rfl)
   ·refine BR.mk (l' := #[false, true, true, true, false, false, false, false, false, false]) rfl rfl rfl ?_
    (first | (refine ST.rd rfl (rd_load_ref Tryd.underlying75 rfl rfl rfl rfl rfl rfl) ?_) | (refine ST.rd rfl (rd_load_ad Tryd.underlying75 rfl rfl rfl rfl) ?_) | (refine ST.rd rfl (rd_load_map Tryd.underlying75 rfl rfl rfl rfl rfl rfl (by assumption)) ?_) | (refine ST.rd rfl (rd_load_flat Tryd.underlying75 rfl rfl rfl rfl rfl rfl (fun _ => rfl) (by assumption) rfl) ?_))
    refine AN.br1 (i := 0) (by kernel_rfl) ?_
    refine BR.mk (l' := #[true, true, true, true, false, false, false, false, false, false]) rfl rfl rfl ?_
    (first | (refine ST.rd rfl (rd_load_ref Tryd.underlying75 rfl rfl rfl rfl rfl rfl) ?_) | (refine ST.rd rfl (rd_load_ad Tryd.underlying75 rfl rfl rfl rfl) ?_) | (refine ST.rd rfl (rd_load_map Tryd.underlying75 rfl rfl rfl rfl rfl rfl (by assumption)) ?_) | (refine ST.rd rfl (rd_load_flat Tryd.underlying75 rfl rfl rfl rfl rfl rfl (fun _ => rfl) (by assumption) rfl) ?_))
    (first | (refine AN.rp (i := 4) (l' := #[true, true, true, true, true, false, false, false, false, false]) rfl rfl rfl (fun _ _ h => h) (by kernel_rfl) rfl (rp_nilCheck rfl rfl) ?_) | (refine AN.rp (i := 4) (l' := #[true, true, true, true, true, false, false, false, false, false]) rfl rfl rfl (fun _ _ h => h) (by kernel_rfl) rfl (rp_nilCheck_ad rfl rfl) ?_))
    (first | (refine AN.rp (i := 5) (l' := #[true, true, true, true, true, true, false, false, false, false]) rfl rfl rfl (fun _ _ h => h) (by kernel_rfl) rfl (rp_field_ref Tryd.underlying91 rfl rfl rfl inf88 (by decide) rfl) ?_) | (refine AN.rp (i := 5) (l' := #[true, true, true, true, true, true, false, false, false, false]) rfl rfl rfl (fun _ _ h => h) (by kernel_rfl) rfl (rp_field_ad Tryd.underlying91 rfl rfl rfl inf88 (by decide) rfl) ?_))
    refine AN.br1 (i := 6) (by kernel_rfl) ?_
    refine BR.mk (l' := #[true, true, true, true, true, true, true, false, false, false]) rfl rfl rfl ?_
    (first | (refine ST.st (st_store_map2 inf88 rfl rfl rfl rfl rfl rfl rfl rfl (by first | assumption | omega)) ?_) | (refine ST.st (st_store inf88 rfl rfl rfl rfl rfl rfl rfl (by first | decide | (simp; done)) rfl) ?_))
    (first | (refine AN.rp (i := 7) (l' := #[true, true, true, true, true, true, true, true, false, false]) rfl rfl rfl (fun _ _ h => h) (by kernel_rfl) rfl (rp_nilCheck rfl rfl) ?_) | (refine AN.rp (i := 7) (l' := #[true, true, true, true, true, true, true, true, false, false]) rfl rfl rfl (fun _ _ h => h) (by kernel_rfl) rfl (rp_nilCheck_ad rfl rfl) ?_))
    (first | (refine AN.rp (i := 8) (l' := #[true, true, true, true, true, true, true, true, true, false]) rfl rfl rfl (fun _ _ h => h) (by kernel_rfl) rfl (rp_field_ref Tryd.underlying91 rfl rfl rfl inf89 (by decide) rfl) ?_) | (refine AN.rp (i := 8) (l' := #[true, true, true, true, true, true, true, true, true, false]) rfl rfl rfl (fun _ _ h => h) (by kernel_rfl) rfl (rp_field_ad Tryd.underlying91 rfl rfl rfl inf89 (by decide) rfl) ?_))
    refine AN.br1 (i := 9) (by kernel_rfl) ?_
    refine BR.mk (l' := #[true, true, true, true, true, true, true, true, true, true]) rfl rfl rfl ?_
    (first | (refine ST.st (st_store_map2 inf89 rfl rfl rfl rfl rfl rfl rfl rfl (by first | assumption | omega)) ?_) | (refine ST.st (st_store inf89 rfl rfl rfl rfl rfl rfl rfl (by first | decide | (simp; done)) rfl) ?_))
    refine AN.nil (by kernel_rfl) ?_
    show Less _ _
    (try simp only [S.put, S.newObj, setL, V.cs, List.length_cons, List.length_nil, List.take_succ_cons, List.take_zero, List.drop_succ_cons, List.drop_zero, List.drop_nil, List.nil_append, List.cons_append, List.append_nil, Nat.zero_add, Nat.reduceAdd, List.map_cons, List.map_nil, List.set_cons_zero, List.set_cons_succ])
    try simp only [S.dd, ddL, List.contains_cons, List.contains_nil, Nat.reduceBEq, beq_self_eq_true, Bool.or_false, Bool.or_true, Bool.false_or, Bool.true_or, Bool.or_self, if_true, if_false, Bool.false_eq_true, ↓reduceIte]
    exact (Less.of rfl (by repeat (first | exact trivial | refine ⟨⟨_, rfl, Wk.refl _⟩, ?_⟩)) (by repeat (first | exact trivial | refine ⟨rfl, ?_⟩)) rfl)
 (try simp only [S.put, S.newObj, setL, V.cs, List.length_cons, List.length_nil, List.take_succ_cons, List.take_zero, List.drop_succ_cons, List.drop_zero, List.drop_nil, List.nil_append, List.cons_append, List.append_nil, Nat.zero_add, Nat.reduceAdd, List.map_cons, List.map_nil, List.set_cons_zero, List.set_cons_succ])
 try simp only [S.dd, ddL, List.contains_cons, List.contains_nil, Nat.reduceBEq, beq_self_eq_true, Bool.or_false, Bool.or_true, Bool.false_or, Bool.true_or, Bool.or_self, if_true, if_false, Bool.false_eq_true, ↓reduceIte]
 try simp only [thenS, S.put, S.newObj, setL, V.cs, List.length_cons, List.length_nil, List.take_succ_cons, List.take_zero, List.drop_succ_cons, List.drop_zero, List.drop_nil, List.nil_append, List.cons_append, List.append_nil, Nat.zero_add, Nat.reduceAdd, List.map_cons, List.map_nil, List.set_cons_zero, List.set_cons_succ, enum]
 refine AW.seq ?_
 refine AW.region ?_
 (first | (refine AL.rd rfl rfl (rd_load_ref Tryd.underlying75 rfl rfl rfl rfl rfl rfl) ?_) | (refine AL.rd rfl rfl (rd_load_ad Tryd.underlying75 rfl rfl rfl rfl) ?_) | (refine AL.rd rfl rfl (rd_load_map Tryd.underlying75 rfl rfl rfl rfl rfl rfl (by assumption)) ?_) | (refine AL.rd rfl rfl (rd_load_flat Tryd.underlying75 rfl rfl rfl rfl rfl rfl (fun _ => rfl) (by assumption) rfl) ?_))
 (first | (refine AL.rp rfl rfl (rp_nilCheck rfl rfl) ?_) | (refine AL.rp rfl rfl (rp_nilCheck_ad rfl rfl) ?_))
 (first | (refine AL.rp rfl rfl (rp_field_ref Tryd.underlying91 rfl rfl rfl inf29 (by decide) rfl) ?_) | (refine AL.rp rfl rfl (rp_field_ad Tryd.underlying91 rfl rfl rfl inf29 (by decide) rfl) ?_))
 (first | (refine AL.rd rfl rfl (rd_load_ref Tryd.underlying29 rfl rfl rfl rfl rfl rfl) ?_) | (refine AL.rd rfl rfl (rd_load_ad Tryd.underlying29 rfl rfl rfl rfl) ?_) | (refine AL.rd rfl rfl (rd_load_map Tryd.underlying29 rfl rfl rfl rfl rfl rfl (by assumption)) ?_) | (refine AL.rd rfl rfl (rd_load_flat Tryd.underlying29 rfl rfl rfl rfl rfl rfl (fun _ => rfl) (by assumption) rfl) ?_))
 (first | (refine AL.rp rfl rfl (rp_len_map Tryd.underlying29 rfl rfl (by assumption)) ?_) | (refine AL.rp rfl rfl (rp_len_own Tryd.underlying29 rfl rfl) ?_) | (refine AL.rp rfl rfl (rp_len_sl Tryd.underlying29 rfl rfl) ?_) | (refine AL.rp rfl rfl (rp_len_nil Tryd.underlying29 rfl rfl) ?_) | (refine AL.rp rfl rfl (rp_len_str Tryd.underlying29 rfl rfl) ?_))
 refine AL.rp rfl rfl (rp_move rfl rfl) ?_
 refine AL.nil ?_
 try simp only [thenS, S.put]
 refine AW.block ?_
 refine AW.loop (fun s' => ∃ k : Nat, k ≤ len ∧ s' = ⟨36, [(0, .ref 801 0), (14, .d (nmsD l)), (15, .i len), (16, .i k)], [(801, ⟨75, [.ref 800 0], false, 0⟩), (800, ⟨91, [.d (.sl 2 24 (l.map nmD)), .d (.p (.int .u32 0)), .d (.p (.int .i32 1)), .d (.p (.int .u32 0)), .mp2 false 810 811 w0.heap.size (smap (bldM Nm.t l k)) (imap (bldM Nm.b l k)), .mp2 true 810 811 w0.heap.size (smap (bldM Nm.t l k)) (imap (bldM Nm.b l k))], false, 0⟩)], .ref 800 0 :: .ref 801 0 :: ks.map V.d⟩) (fun s' => len - s'.nat 16) ⟨_, ?_, 0, by omega, rfl⟩ ?_
 ·exact (Less.of rfl (by repeat (first | exact trivial | refine ⟨⟨_, rfl, Wk.refl _⟩, ?_⟩ | refine ⟨⟨_, rfl, Wk.nil _ _⟩, ?_⟩ | refine ⟨⟨_, rfl, Wk.junk _⟩, ?_⟩)) (by repeat (first | exact trivial | refine ⟨rfl, ?_⟩)) rfl)
 rintro s' ⟨k, hk, rfl⟩
 by_cases hlt : k < len
 ·obtain ⟨x, hx⟩ := get_lt hl hlt
  refine AW.seq ?_
  refine AW.region ?_
  (first | (refine AL.rp rfl rfl (rp_lssT rfl rfl rfl (by first | assumption | omega | (dsimp only; omega))) ?_) | (refine AL.rp rfl rfl (rp_lssF rfl rfl rfl (by first | assumption | omega | (dsimp only; omega))) ?_) | (refine AL.rp rfl rfl (rp_lss rfl rfl rfl) ?_))
  refine AL.nil ?_
  try simp only [thenS, S.put]
  refine AW.seq ?_
  refine AW.condT rfl ?_
  refine AW.skip ?_
  try simp only [thenS]
  refine AW.seq ?_
  refine AW.block ?_
  refine AW.seq ?_
  refine AW.region ?_
  refine AL.rp rfl rfl (rp_move rfl rfl) ?_
  (first | (refine AL.rp rfl rfl (rp_index_map Tryd.underlying29 inf54 rfl rfl rfl rfl (by assumption)) ?_) | (refine AL.rp rfl rfl (rp_index_own Tryd.underlying29 inf54 rfl rfl rfl rfl (by first | assumption | omega)) ?_) | (refine AL.rp rfl rfl (rd_index_sl Tryd.underlying29 inf54 rfl rfl rfl rfl (by assumption)) ?_) | (refine AL.rp rfl rfl (rp_index_own Tryd.underlying29 inf54 rfl rfl rfl (by omega) (by omega)) ?_))
  (first | (refine AL.rd rfl rfl (rd_loads_ref Tryd.underlying54 rfl inf54 rfl rfl rfl rfl rfl rfl) ?_) | (refine AL.rd rfl rfl (rd_loads_ad Tryd.underlying54 rfl inf54 rfl rfl rfl rfl) ?_))
  refine AL.sm rfl (sm_alloc (l := [.d (.p (.string ⟨#[]⟩)), .d (.p (.int .i64 0))]) 2 inf54 rfl (by first | rfl | simp [S.clean, S.put, S.newObj, S.forget, V.has, V.hasL, junkIf, setL, V.cs, hasL_i, hasL_vd, hasL_vdt, hasL_d, hasL_b, hasL_s, hasL_n, hasL_rep, hasL_flat, hasL_append, -List.map_set]) rfl rfl) ?_
  refine AL.rp rfl rfl (rp_assign rfl rfl) ?_
  refine AL.st rfl (st_store_any inf54 rfl rfl rfl rfl rfl rfl rfl rfl (by first | decide | (simp; done) | (simp; omega)) rfl) ?_
  refine AL.nil ?_
  try simp only [thenS, S.put, S.newObj, setL, V.cs, List.length_cons, List.length_nil, List.take_succ_cons, List.take_zero, List.drop_succ_cons, List.drop_zero, List.drop_nil, List.nil_append, List.cons_append, List.append_nil, Nat.zero_add, Nat.reduceAdd, List.map_cons, List.map_nil, List.set_cons_zero, List.set_cons_succ]
  refine AW.seq ?_
  refine AW.draw [(0, true), (1, true), (2, true), (3, true), (4, true), (5, true), (6, true), (7, false)] (fun i => !([7] : List Nat).contains i) 8 (by kernel_rfl) (by kernel_rfl) rfl (by kernel_rfl) ?_
  (first | (refine AD1.rd rfl rfl rfl (fun _ _ h => h) (rd_load_ref Tryd.underlying75 rfl rfl rfl rfl rfl rfl) ?_) | (refine AD1.rd rfl rfl rfl (fun _ _ h => h) (rd_load_ad Tryd.underlying75 rfl rfl rfl rfl) ?_) | (refine AD1.rd rfl rfl rfl (fun _ _ h => h) (rd_load_map Tryd.underlying75 rfl rfl rfl rfl rfl rfl (by assumption)) ?_) | (refine AD1.rd rfl rfl rfl (fun _ _ h => h) (rd_load_flat Tryd.underlying75 rfl rfl rfl rfl rfl rfl (fun _ => rfl) (by assumption) rfl) ?_))
  (first | (refine AD1.rp rfl rfl rfl (fun _ _ h => h) (rp_nilCheck rfl rfl) ?_) | (refine AD1.rp rfl rfl rfl (fun _ _ h => h) (rp_nilCheck_ad rfl rfl) ?_))
  (first | (refine AD1.rp rfl rfl rfl (fun _ _ h => h) (rp_field_ref Tryd.underlying91 rfl rfl rfl inf88 (by decide) rfl) ?_) | (refine AD1.rp rfl rfl rfl (fun _ _ h => h) (rp_field_ad Tryd.underlying91 rfl rfl rfl inf88 (by decide) rfl) ?_))
  (first | (refine AD1.rd rfl rfl rfl (fun _ _ h => h) (rd_load_ref Tryd.underlying88 rfl rfl rfl rfl rfl rfl) ?_) | (refine AD1.rd rfl rfl rfl (fun _ _ h => h) (rd_load_ad Tryd.underlying88 rfl rfl rfl rfl) ?_) | (refine AD1.rd rfl rfl rfl (fun _ _ h => h) (rd_load_map Tryd.underlying88 rfl rfl rfl rfl rfl rfl (by assumption)) ?_) | (refine AD1.rd rfl rfl rfl (fun _ _ h => h) (rd_load_flat Tryd.underlying88 rfl rfl rfl rfl rfl rfl (fun _ => rfl) (by assumption) rfl) ?_))
  (first | (refine AD1.rp rfl rfl rfl (fun _ _ h => h) (rp_field_ref Tryd.underlying54 rfl rfl rfl inf9 (by decide) rfl) ?_) | (refine AD1.rp rfl rfl rfl (fun _ _ h => h) (rp_field_ad Tryd.underlying54 rfl rfl rfl inf9 (by decide) rfl) ?_))
  (first | (refine AD1.rd rfl rfl rfl (fun _ _ h => h) (rd_load_ref Tryd.underlying9 rfl rfl rfl rfl rfl rfl) ?_) | (refine AD1.rd rfl rfl rfl (fun _ _ h => h) (rd_load_ad Tryd.underlying9 rfl rfl rfl rfl) ?_) | (refine AD1.rd rfl rfl rfl (fun _ _ h => h) (rd_load_map Tryd.underlying9 rfl rfl rfl rfl rfl rfl (by assumption)) ?_) | (refine AD1.rd rfl rfl rfl (fun _ _ h => h) (rd_load_flat Tryd.underlying9 rfl rfl rfl rfl rfl rfl (fun _ => rfl) (by assumption) rfl) ?_))
  refine AD1.rp rfl rfl rfl (fun _ _ h => h) (rp_move rfl rfl) ?_
  refine AD1.go ?_
  refine AD2.go ?_
  (first | (refine AD3.st rfl rfl rfl (st_mapUpdate2 (yy := false) (KeyOk.str Tryd.underlying9) Tryd.underlying88 rfl rfl (by rfl) rfl (fun g a w hs => VRep.p_eq (hs.ev rfl)) rfl rfl (by first | rfl | assumption | simp [S.put, S.newObj, setL, V.cs, V.mpsL, V.mps, D.mps, D.mpsL, D.mpsR, mpsR_ars, mpsR_sts, V.one])) ?_) | (refine AD3.st rfl rfl rfl (st_mapUpdate2 (yy := true) (KeyOk.str Tryd.underlying9) Tryd.underlying88 rfl rfl (by rfl) rfl (fun g a w hs => VRep.p_eq (hs.ev rfl)) rfl rfl (by first | rfl | assumption | simp [S.put, S.newObj, setL, V.cs, V.mpsL, V.mps, D.mps, D.mpsL, D.mpsR, mpsR_ars, mpsR_sts, V.one])) ?_))
  simp only [S.put, S.newObj, setL, V.cs, List.map_cons, List.map_nil, rowMap, upB_p, upB_sl, upB_ref, upB_own, upB_junk, upB_tup, upB_agg2, upB_F, upB_T, upB_nms, mpsR_nms]
  refine AD3.nil ?_
  try simp only [thenS, S.put, S.newObj, setL, V.cs, List.length_cons, List.length_nil, List.take_succ_cons, List.take_zero, List.drop_succ_cons, List.drop_zero, List.drop_nil, List.nil_append, List.cons_append, List.append_nil, Nat.zero_add, Nat.reduceAdd, List.map_cons, List.map_nil, List.set_cons_zero, List.set_cons_succ]
  refine AW.draw [(0, true), (1, true), (2, true), (3, true), (4, true), (5, true), (6, true), (7, false)] (fun i => !([7] : List Nat).contains i) 8 (by kernel_rfl) (by kernel_rfl) rfl (by kernel_rfl) ?_
  (first | (refine AD1.rd rfl rfl rfl (fun _ _ h => h) (rd_load_ref Tryd.underlying75 rfl rfl rfl rfl rfl rfl) ?_) | (refine AD1.rd rfl rfl rfl (fun _ _ h => h) (rd_load_ad Tryd.underlying75 rfl rfl rfl rfl) ?_) | (refine AD1.rd rfl rfl rfl (fun _ _ h => h) (rd_load_map Tryd.underlying75 rfl rfl rfl rfl rfl rfl (by assumption)) ?_) | (refine AD1.rd rfl rfl rfl (fun _ _ h => h) (rd_load_flat Tryd.underlying75 rfl rfl rfl rfl rfl rfl (fun _ => rfl) (by assumption) rfl) ?_))
  (first | (refine AD1.rp rfl rfl rfl (fun _ _ h => h) (rp_nilCheck rfl rfl) ?_) | (refine AD1.rp rfl rfl rfl (fun _ _ h => h) (rp_nilCheck_ad rfl rfl) ?_))
  (first | (refine AD1.rp rfl rfl rfl (fun _ _ h => h) (rp_field_ref Tryd.underlying91 rfl rfl rfl inf89 (by decide) rfl) ?_) | (refine AD1.rp rfl rfl rfl (fun _ _ h => h) (rp_field_ad Tryd.underlying91 rfl rfl rfl inf89 (by decide) rfl) ?_))
  (first | (refine AD1.rd rfl rfl rfl (fun _ _ h => h) (rd_load_ref Tryd.underlying89 rfl rfl rfl rfl rfl rfl) ?_) | (refine AD1.rd rfl rfl rfl (fun _ _ h => h) (rd_load_ad Tryd.underlying89 rfl rfl rfl rfl) ?_) | (refine AD1.rd rfl rfl rfl (fun _ _ h => h) (rd_load_map Tryd.underlying89 rfl rfl rfl rfl rfl rfl (by assumption)) ?_) | (refine AD1.rd rfl rfl rfl (fun _ _ h => h) (rd_load_flat Tryd.underlying89 rfl rfl rfl rfl rfl rfl (fun _ => rfl) (by assumption) rfl) ?_))
  (first | (refine AD1.rp rfl rfl rfl (fun _ _ h => h) (rp_field_ref Tryd.underlying54 rfl rfl rfl inf3 (by decide) rfl) ?_) | (refine AD1.rp rfl rfl rfl (fun _ _ h => h) (rp_field_ad Tryd.underlying54 rfl rfl rfl inf3 (by decide) rfl) ?_))
  (first | (refine AD1.rd rfl rfl rfl (fun _ _ h => h) (rd_load_ref Tryd.underlying3 rfl rfl rfl rfl rfl rfl) ?_) | (refine AD1.rd rfl rfl rfl (fun _ _ h => h) (rd_load_ad Tryd.underlying3 rfl rfl rfl rfl) ?_) | (refine AD1.rd rfl rfl rfl (fun _ _ h => h) (rd_load_map Tryd.underlying3 rfl rfl rfl rfl rfl rfl (by assumption)) ?_) | (refine AD1.rd rfl rfl rfl (fun _ _ h => h) (rd_load_flat Tryd.underlying3 rfl rfl rfl rfl rfl rfl (fun _ => rfl) (by assumption) rfl) ?_))
  refine AD1.rp rfl rfl rfl (fun _ _ h => h) (rp_move rfl rfl) ?_
  refine AD1.go ?_
  refine AD2.go ?_
  (first | (refine AD3.st rfl rfl rfl (st_mapUpdate2 (yy := false) (KeyOk.int Tryd.underlying3) Tryd.underlying89 rfl rfl (by rfl) rfl (fun g a w hs => VRep.p_eq (hs.ev rfl)) rfl rfl (by first | rfl | assumption | simp [S.put, S.newObj, setL, V.cs, V.mpsL, V.mps, D.mps, D.mpsL, D.mpsR, mpsR_ars, mpsR_sts, V.one])) ?_) | (refine AD3.st rfl rfl rfl (st_mapUpdate2 (yy := true) (KeyOk.int Tryd.underlying3) Tryd.underlying89 rfl rfl (by rfl) rfl (fun g a w hs => VRep.p_eq (hs.ev rfl)) rfl rfl (by first | rfl | assumption | simp [S.put, S.newObj, setL, V.cs, V.mpsL, V.mps, D.mps, D.mpsL, D.mpsR, mpsR_ars, mpsR_sts, V.one])) ?_))
  simp only [S.put, S.newObj, setL, V.cs, List.map_cons, List.map_nil, rowMap, upB_p, upB_sl, upB_ref, upB_own, upB_junk, upB_tup, upB_agg2, upB_F, upB_T, upB_nms, mpsR_nms]
  refine AD3.nil ?_
  try simp only [thenS, S.put, S.newObj, setL, V.cs, List.length_cons, List.length_nil, List.take_succ_cons, List.take_zero, List.drop_succ_cons, List.drop_zero, List.drop_nil, List.nil_append, List.cons_append, List.append_nil, Nat.zero_add, Nat.reduceAdd, List.map_cons, List.map_nil, List.set_cons_zero, List.set_cons_succ]
  refine AW.region ?_
  refine AL.rp rfl rfl (rp_add rfl rfl rfl (by first | omega | (dsimp only; omega))) ?_
  refine AL.rp rfl rfl (rp_move rfl rfl) ?_
  refine AL.nil ?_
  try simp only [thenS, S.put]
  refine ⟨_, ?_, ⟨k + 1, by omega, rfl⟩, ?_⟩
  ·rw [bldM_snoc hx, bldM_snoc hx]; exact (Less.of rfl (by repeat (first | exact trivial | refine ⟨⟨_, rfl, Wk.refl _⟩, ?_⟩ | refine ⟨⟨_, rfl, Wk.nil _ _⟩, ?_⟩ | refine ⟨⟨_, rfl, Wk.junk _⟩, ?_⟩)) (by repeat (first | exact trivial | refine ⟨rfl, ?_⟩)) rfl)
  ·simp [S.nat, fnd]; omega
 ·obtain rfl : k = len := by omega
  refine AW.seq ?_
  refine AW.region ?_
  (first | (refine AL.rp rfl rfl (rp_lssT rfl rfl rfl (by first | assumption | omega | (dsimp only; omega))) ?_) | (refine AL.rp rfl rfl (rp_lssF rfl rfl rfl (by first | assumption | omega | (dsimp only; omega))) ?_) | (refine AL.rp rfl rfl (rp_lss rfl rfl rfl) ?_))
  refine AL.nil ?_
  try simp only [thenS, S.put]
  refine AW.seq ?_
  refine AW.condF rfl ?_
  refine AW.exit ?_
  try simp only [thenS, inBlockS, ↓reduceIte, Nat.reduceEqDiff]
  exact ⟨[], trivial, rfl, rfl, rfl⟩
end Go.Proofs.YthflidjnlnmbiaaDoor

namespace Go.Proofs.YthflidjnlnmbiaaDoor
open Go.RowKit
set_option linter.unusedSimpArgs false
set_option linter.unusedVariables false
set_option maxRecDepth 100000

theorem ev_ref {g : Nat → Nat × Nat} {w : World} {r k : Nat} {y : Value} {q : Nat → Prop} (h : VRep w q g (.ref r k) y) : y = .pointer (some ⟨(g r).1, k, none⟩) := by
  cases h; rfl
theorem tup0 {w : World} {q : Nat → Prop} {g : Nat → Nat × Nat} {y : Value} (h : VRep w q g (.tup []) y) : y = .tuple #[] := by
  cases h with
  | tup _ cs hl _ => cases cs with | nil => rfl | cons => simp at hl
theorem less_xH {s : S} {l : List Nm} {d d' m m' : Int} {a b a' b' : V} {H0 : List (Nat × Row)} {row : Row} (hH : H0 = xH l d m a b) (hr : row = idxR l d' m' a' b') : Less ⟨s.n, [], xH l d' m' a' b', s.K⟩ { s with H := (800, row) :: H0 } :=
  ⟨rfl, fun i v h => (by cases h), fun r row' h => (by
    subst hH hr
    by_cases e1 : r = 801
    · subst e1
      simp only [xH, fnd, Nat.reduceBEq, if_true, Option.some.injEq] at h
      subst h
      exact ⟨_, rfl, rfl, rfl, rfl, fun j v hv => ⟨v, hv, .refl _⟩⟩
    · by_cases e2 : r = 800
      · subst e2
        simp [xH, fnd] at h
        subst h
        exact ⟨_, rfl, rfl, rfl, rfl, fun j v hv => ⟨v, hv, .refl _⟩⟩
      · exfalso
        simp [xH, fnd, Ne.symm e1, Ne.symm e2] at h), fun j v h => ⟨v, h, .refl _⟩⟩
theorem less_cut {s : S} {H0 : List (Nat × Row)} (hH : s.H = H0) : Less ⟨s.n, [], H0, s.K⟩ s := by
  subst hH
  exact ⟨rfl, fun i v h => (by cases h), fun r row h => ⟨row, h, rfl, rfl, rfl, fun j v hv => ⟨v, hv, .refl _⟩⟩, fun j v h => ⟨v, h, .refl _⟩⟩
set_option maxHeartbeats 1000000 in
theorem pc_once (l : List Nm) (hb : l.length * 24 ≤ 140737488355328) (ks : List D) (hks : V.mpsL (ks.map V.d) = false) :
    PC Tryd.prog 68 [.ref 800 1, .fn 69 [.ref 801 0]] (xH l 0 0 nomap nomap) (.ref 801 0 :: ks.map V.d) (fun v H' K' => v = .tup [] ∧ K' = .ref 801 0 :: ks.map V.d ∧ H' = xH l 1 0 (.d (.mp (smap (bldM Nm.t l l.length)))) (.d (.mp (imap (bldM Nm.b l l.length))))) := by
  intro c s o fx xs tys ll ts hP ho hfx hargs hts hH hK hd g a w hs Kc Q hKc
  have hen := en_made1 l hb ks hks
  obtain ⟨P0, w0, out, kx⟩ := c
  obtain rfl : P0 = Tryd.prog := hP
  obtain ⟨cs, hfv, hcl, _⟩ := fn_eval hs hfx
  obtain rfl : cs = [] := by cases cs with | nil => rfl | cons => simp at hcl
  obtain ⟨hal, haa⟩ := args_eval hs hargs
  obtain ⟨y0, y1, hxs⟩ : ∃ y0 y1, xs.toList.map a.eval = [y0, y1] := by
    match h : xs.toList.map a.eval, hal with
    | [y0, y1], _ => exact ⟨y0, y1, rfl⟩
  rw [hxs] at haa
  have hy0 := ev_ref (haa 0 _ y0 rfl rfl)
  have hy1 : y1 = .func (.func 69) #[] #[.pointer (some ⟨(g 801).1, 0, none⟩)] := by
    have h := haa 1 _ y1 rfl rfl
    cases h with
    | fn _ _ cs hl hh =>
      match cs, hl, hh with
      | [z], _, hh => rw [ev_ref (hh 0 _ z rfl rfl)]
  have hr0 : fnd s.H 800 = some (idxR l 0 0 nomap nomap) := by rw [hH]; rfl
  obtain ⟨arr, h1, _, h2⟩ := hs.obj 800 _ hr0 rfl
  have hc : ∀ (j : Nat) (x : Value), (idxR l 0 0 nomap nomap).cells[j]? = some (.d (.p x)) → w.cell? ⟨(g 800).1, j, none⟩ = some x := by
    intro j x hj
    obtain ⟨y, h3, h4⟩ := h2 j _ hj
    rw [cell_of_row w _ _ _ _ _ h1, h3, VRep.p_eq h4]
  have hfr : ∀ j, w.frozen? ⟨(g 800).1, j, none⟩ = false := fun j => frozen_of_row w _ j _ _ h1
  have hsA := (hs.setCell1 (v := .d (.p (.int .i32 1))) (x := .int .i32 1) (k := 2) hr0 rfl (by simp [idxR]) (.d _ _ (.p _))).less (less_xH (d' := 0) (m' := 1) (a' := nomap) (b' := nomap) hH rfl)
  have hll : ll.length = ts.length := by simpa using congrArg List.length hts
  have hlt : ∀ (j i : Nat) (v : V), ll[j]? = some i → ts[j]? = some v → fnd s.T i = some v := by
    intro j i v h1 h2
    have h3 := congrArg (fun l => l[j]?) hts
    simp only [List.getElem?_map, h1, h2, Option.map_some, Option.some.injEq] at h3
    exact h3
  have hkeep0 : VReps w (qt ⟨Tryd.prog, w0, out, kx⟩ s.H g) g ts (ll.map (fun i => a.tmps.getD i undef)) := by
    refine ⟨by simp [hll], fun j v x h3 h4 => ?_⟩
    rw [List.getElem?_map] at h4
    cases h5 : ll[j]? with
    | none => rw [h5] at h4; cases h4
    | some i =>
      rw [h5] at h4
      simp only [Option.map_some, Option.some.injEq] at h4
      obtain ⟨y, h6, h7⟩ := hs.tmp i v (hlt j i v h5 h3)
      rw [← h4, Array.getD_eq_getD_getElem?, h6]
      exact h7
  obtain ⟨wA, hwA⟩ : ∃ wA, wA = w.setCell ⟨(g 800).1, 2, none⟩ (.int .i32 1) := ⟨_, rfl⟩
  rw [← hwA] at hsA
  -- what is kept, held in the world in which the closure is called
  have hsB : Sim ⟨Tryd.prog, w0, out, .pointer (some ⟨(g 800).1, 0, none⟩) :: (ll.map (fun i => a.tmps.getD i undef) ++ kx)⟩ g ⟨0, [], xH l 0 1 nomap nomap, .ref 800 0 :: (ts ++ s.K)⟩ { tmps := #[], defers := [] } wA := by
    have hsK : Sim ⟨Tryd.prog, w0, out, .pointer (some ⟨(g 800).1, 0, none⟩) :: (ll.map (fun i => a.tmps.getD i undef) ++ kx)⟩ g ⟨0, [], s.H, .ref 800 0 :: (ts ++ s.K)⟩ { tmps := #[], defers := [] } w := by
      refine ⟨rfl, rfl, fun i v h => (by cases h), hs.nul, hs.obj, ?_, hs.inj, hs.base, hs.low, hs.below⟩
      intro j v x h3 h4
      cases j with
      | zero =>
        simp only [List.getElem?_cons_zero, Option.some.injEq] at h3 h4
        subst h3 h4
        exact .ref 800 0
      | succ j =>
        simp only [List.getElem?_cons_succ] at h3 h4
        by_cases hj : j < ts.length
        · rw [List.getElem?_append_left hj] at h3
          rw [List.getElem?_append_left (by simp; omega)] at h4
          exact hkeep0.2 j v x h3 h4
        · rw [List.getElem?_append_right (by omega)] at h3
          rw [List.getElem?_append_right (by simp; omega)] at h4
          refine hs.keep (j - ts.length) v x h3 ?_
          simpa [hll] using h4
    have := (hsK.setCell1 (v := .d (.p (.int .i32 1))) (x := .int .i32 1) (k := 2) hr0 rfl (by simp [idxR]) (.d _ _ (.p _))).less (less_xH (s := ⟨0, [], s.H, .ref 800 0 :: (ts ++ s.K)⟩) (d' := 0) (m' := 1) (a' := nomap) (b' := nomap) hH rfl)
    rw [hwA]
    exact this
  have hen2 : EN Tryd.prog 69 [.ref 801 0] (xH l 0 1 nomap nomap) ([] ++ (V.ref 800 0 :: (ts ++ s.K))) (fun N v H' K' => v = .tup [] ∧ K' = .ref 800 0 :: .ref 801 0 :: ks.map V.d ∧ H' = xH l 0 1 (.mp2 false 810 811 N (smap (bldM Nm.t l l.length)) (imap (bldM Nm.b l l.length))) (.mp2 true 810 811 N (smap (bldM Nm.t l l.length)) (imap (bldM Nm.b l l.length)))) := by rw [hK]; exact hen
  have hcall := EN.calls (xs := [.pointer (some ⟨(g 801).1, 0, none⟩)]) (kvs := []) hen2 hsB ⟨rfl, fun j u x h3 h4 => by
    match j, h3, h4 with
    | 0, h3, h4 =>
      simp only [List.getElem?_cons_zero, Option.some.injEq] at h3 h4
      subst h3 h4
      exact .ref 801 0⟩ ⟨rfl, fun j u x h3 h4 => by simp at h3⟩
  obtain ⟨R, hR⟩ : ∃ R : World → Prop, R = fun w' => ∃ g1 s1 a1, Sim ⟨Tryd.prog, w0, out, .pointer (some ⟨(g 800).1, 0, none⟩) :: (ll.map (fun i => a.tmps.getD i undef) ++ kx)⟩ g1 s1 a1 w' ∧ s1.K = .ref 800 0 :: .ref 801 0 :: ks.map V.d ∧ s1.H = xH l 0 1 (.mp2 false 810 811 w0.heap.size (smap (bldM Nm.t l l.length)) (imap (bldM Nm.b l l.length))) (.mp2 true 810 811 w0.heap.size (smap (bldM Nm.t l l.length)) (imap (bldM Nm.b l l.length))) := ⟨_, rfl⟩
  have hcall2 : Calls Tryd.prog 69 #[.pointer (some ⟨(g 801).1, 0, none⟩)] wA fun e w' => e = .returned (.tuple #[]) ∧ R w' := by
    refine Calls.mono hcall ?_
    rintro e w' ⟨v, x, g1, s1, a1, rfl, h3, h4, rfl, h5, h6⟩
    rw [tup0 h4, hR]
    exact ⟨rfl, g1, s1, a1, h3, h5, h6⟩
  have hRc : ∀ w', R w' → (∀ (j : Nat) (x : Value), (idxR l 0 1 nomap nomap).cells[j]? = some (.d (.p x)) → j < 4 → w'.cell? ⟨(g 800).1, j, none⟩ = some x) ∧ ∀ j, w'.frozen? ⟨(g 800).1, j, none⟩ = false := by
    intro w' hw'
    rw [hR] at hw'
    obtain ⟨g1, s1, a1, h3, h5, h6⟩ := hw'
    have hg : (g1 800).1 = (g 800).1 := by
      have := ev_ref (h3.keep 0 (.ref 800 0) (.pointer (some ⟨(g 800).1, 0, none⟩)) (by rw [h5]; rfl) rfl)
      simp only [Value.pointer.injEq, Option.some.injEq, Addr.mk.injEq, and_true] at this
      exact this.symm
    have hr9 : fnd s1.H 800 = some (idxR l 0 1 (.mp2 false 810 811 w0.heap.size (smap (bldM Nm.t l l.length)) (imap (bldM Nm.b l l.length))) (.mp2 true 810 811 w0.heap.size (smap (bldM Nm.t l l.length)) (imap (bldM Nm.b l l.length)))) := by rw [h6]; rfl
    obtain ⟨ar9, k1, _, k2⟩ := h3.obj 800 _ hr9 rfl
    rw [hg] at k1
    refine ⟨fun j x hj hj4 => ?_, fun j => frozen_of_row w' _ j _ _ k1⟩
    obtain ⟨y, k3, k4⟩ := k2 j (.d (.p x)) (by
      match j, hj4, hj with
      | 0, _, hj => exact hj
      | 1, _, hj => exact hj
      | 2, _, hj => exact hj
      | 3, _, hj => exact hj)
    rw [cell_of_row w' _ _ _ _ _ k1, k3, VRep.p_eq k4]
  have hO : OnceFn 69 (.pointer (some ⟨(g 801).1, 0, none⟩)) (g 800).1 1 w R := ⟨by rw [hwA] at hcall2; exact hcall2, fun w' hw' => ⟨(hRc w' hw').1 1 _ rfl (by omega), (hRc w' hw').2 1⟩, fun w' hw' => ⟨(hRc w' hw').1 2 _ rfl (by omega), (hRc w' hw').2 2⟩⟩
  unfold Oper.wp
  rw [exec_call (caps := []) (c := ⟨Tryd.prog, w0, out, kx⟩) ⟨Tryd.func68, rfl, rfl, rfl, rfl⟩ ho hfv, List.append_nil, hxs, hy0, hy1]
  simp only [Oper.upon]
  refine Calls.mono (do_first (g 800).1 1 _ w R hO (hc 1 _ rfl) (hc 2 _ rfl) (hfr 1) (hfr 2)) ?_
  rintro e w' ⟨rfl, w2, hw2, rfl⟩
  have hw2' := hw2
  rw [hR] at hw2'
  obtain ⟨g1, s1, a1, h3, h5, h6⟩ := hw2'
  have hg : (g1 800).1 = (g 800).1 := by
    have := ev_ref (h3.keep 0 (.ref 800 0) (.pointer (some ⟨(g 800).1, 0, none⟩)) (by rw [h5]; rfl) rfl)
    simp only [Value.pointer.injEq, Option.some.injEq, Addr.mk.injEq, and_true] at this
    exact this.symm
  obtain ⟨A, hA⟩ : ∃ A, A = V.mp2 false 810 811 w0.heap.size (smap (bldM Nm.t l l.length)) (imap (bldM Nm.b l l.length)) := ⟨_, rfl⟩
  obtain ⟨B, hB⟩ : ∃ B, B = V.mp2 true 810 811 w0.heap.size (smap (bldM Nm.t l l.length)) (imap (bldM Nm.b l l.length)) := ⟨_, rfl⟩
  rw [← hA, ← hB] at h6
  have hm := (h3.less (less_cut h6)).move (w' := w2.drew) (Below.drew (Below.refl _ _))
  have hm1 := (hm.setCell1 (r := 800) (row := idxR l 0 1 A B) (v := .d (.p (.int .u32 1))) (x := .int .u32 1) (k := 1) rfl rfl (by simp [idxR]) (.d _ _ (.p _))).less (less_xH (s := ⟨s1.n, [], xH l 0 1 A B, s1.K⟩) (d' := 1) (m' := 1) (a' := A) (b' := B) rfl rfl)
  have hm2 := (hm1.setCell1 (r := 800) (row := idxR l 1 1 A B) (v := .d (.p (.int .i32 0))) (x := .int .i32 0) (k := 2) rfl rfl (by simp [idxR]) (.d _ _ (.p _))).less (less_xH (s := ⟨s1.n, [], xH l 1 1 A B, s1.K⟩) (d' := 1) (m' := 0) (a' := A) (b' := B) rfl rfl)
  have h9 := hm2.frz2 (N := w0.heap.size) (Nat.le_refl _)
  rw [hg] at h9
  have hfz : (xH l 1 0 A B).map (fun x => (x.1, rowMap (frz2 w0.heap.size) x.2)) = xH l 1 0 (.d (.mp (smap (bldM Nm.t l l.length)))) (.d (.mp (imap (bldM Nm.b l l.length)))) := by
    subst hA hB
    simp [xH, idxR, rowMap, frz2]
  simp only [List.map_nil] at h9
  rw [hfz, h5, ← hK] at h9
  refine hKc g1 _ _ _ ⟨_, _, _, ⟨rfl, rfl, rfl⟩, rfl⟩ ?_
  refine Sim.put (s := ⟨s.n, ll.zip _, _, List.drop ll.length _⟩) ?_ o.dst (dok_spec (s := s) hd) (.tup [] [] rfl (fun j u x h => by simp at h))
  rw [← hK]
  refine ⟨hs.size, hs.defers, ?_, h9.nul, h9.obj, ?_, h9.inj, h9.base, h9.low, h9.below⟩
  · intro i v hv
    obtain ⟨j, k3, k4⟩ := fnd_zip _ _ i v hv
    have hj : j < ll.length := (List.getElem?_eq_some_iff.1 k3).1
    rw [List.getElem?_append_left (by omega)] at k4
    obtain ⟨y, k6, k7⟩ := hs.tmp i v (hlt j i v k3 k4)
    refine ⟨y, k6, h9.keep (j + 1) v y ?_ ?_⟩
    · simp only [List.getElem?_cons_succ]
      rw [List.getElem?_append_left (by omega)]
      exact k4
    · simp only [List.getElem?_cons_succ]
      rw [List.getElem?_append_left (by simpa using hj)]
      simp [k3, Array.getD_eq_getD_getElem?, k6]
  · intro j v x k3 k4
    refine h9.keep (ll.length + j + 1) v x ?_ ?_
    · simp only [List.getElem?_cons_succ]
      simpa using k3
    · simp only [List.getElem?_cons_succ]
      rw [List.getElem?_append_right (by simp)]
      simpa using k4
end Go.Proofs.YthflidjnlnmbiaaDoor

namespace Go.Proofs.YthflidjnlnmbiaaDoor
open Go.RowKit
set_option linter.unusedSimpArgs false
set_option linter.unusedVariables false
set_option maxRecDepth 100000

theorem iter_below (w : World) (s : ByteArray) (pos : Nat) : Below w.heap.size w (w.iter s pos) := (Below.refl _ _).alloc (Nat.le_refl _) _
def wdP (l : List UInt8) (n : Nat) : Prop := ∀ (k : Nat) (b : UInt8), k < n → l[k]? = some b → chLet b ∨ (chDig b ∧ 0 < k)
theorem wdP_ok {l : List UInt8} (h1 : 1 ≤ l.length) (h2 : l.length ≤ 12) (h : wdP l l.length) : nmB l = true := nmB_true ⟨h1, h2, fun k b hb => h k b (List.getElem?_eq_some_iff.1 hb).1 hb⟩
theorem wdP_no {l : List UInt8} {k : Nat} {b : UInt8} (hb : l[k]? = some b) (h : ¬ (chLet b ∨ (chDig b ∧ 0 < k))) : nmB l = false := nmB_false fun ⟨_, _, hp⟩ => h (hp k b hb)
theorem wdP_snoc {l : List UInt8} {n : Nat} {b : UInt8} (h : wdP l n) (hb : l[n]? = some b) (hc : chLet b ∨ (chDig b ∧ 0 < n)) : wdP l (n + 1) := by
  intro k c hk hc'
  by_cases e : k = n
  · subst e; rw [hb] at hc'; cases hc'; exact hc
  · exact h k c (by omega) hc'
theorem byte_at (s : ByteArray) (pos : Nat) (h : pos < s.size) : s.data.toList[pos]? = some (s[pos]'h) := by
  have hl : s.data.toList.length = s.size := Array.length_toList
  rw [List.getElem?_eq_getElem (by omega)]
  rfl
theorem dec_lt {s : ByteArray} {pos c wd : Nat} (h : pos < s.size) (hd : Utf8.decode s pos = (c, wd)) (hc : c < 128) : ∃ b : UInt8, s.data.toList[pos]? = some b ∧ b.toNat = c ∧ wd = 1 := by
  refine ⟨_, byte_at s pos h, ?_⟩
  by_cases ha : (s[pos]'h).toNat < 128
  · rw [decode_ascii s pos h ha] at hd
    simp only [Prod.mk.injEq] at hd
    exact ⟨hd.1, hd.2.symm⟩
  · have := (decode_high s pos h (by omega)).1
    rw [hd] at this
    simp only at this
    omega
theorem dec_no {s : ByteArray} {pos c wd : Nat} (h : pos < s.size) (hd : Utf8.decode s pos = (c, wd)) (hc : ¬ ((97 ≤ c ∧ c ≤ 122) ∨ c = 95 ∨ ((48 ≤ c ∧ c ≤ 57) ∧ 0 < pos))) : nmB s.data.toList = false := by
  by_cases h1 : c < 128
  · obtain ⟨b, hb, e, _⟩ := dec_lt h hd h1
    refine wdP_no hb ?_
    unfold chLet chDig
    rw [e]
    omega
  · refine wdP_no (byte_at s pos h) ?_
    by_cases ha : (s[pos]'h).toNat < 128
    · rw [decode_ascii s pos h ha] at hd
      simp only [Prod.mk.injEq] at hd
      omega
    · unfold chLet chDig
      omega
theorem dec_yes {s : ByteArray} {pos c wd : Nat} (h : pos < s.size) (hd : Utf8.decode s pos = (c, wd)) (hc : (97 ≤ c ∧ c ≤ 122) ∨ c = 95 ∨ ((48 ≤ c ∧ c ≤ 57) ∧ 0 < pos)) (hw : wdP s.data.toList pos) : wd = 1 ∧ wdP s.data.toList (pos + 1) := by
  obtain ⟨b, hb, e, e2⟩ := dec_lt h hd (by omega)
  refine ⟨e2, wdP_snoc hw hb ?_⟩
  unfold chLet chDig
  rw [e]
  omega
set_option maxHeartbeats 2000000 in
theorem word_call (s : ByteArray) (w : World) : Calls Tryd.prog 47 #[.string s] w fun e w' => e = .returned (.bool (nmB s.data.toList)) ∧ Below w.heap.size w w' := by
  have hl : s.data.toList.length = s.size := Array.length_toList
  by_cases h0 : s.size = 0
  · have hs : s = ⟨#[]⟩ := by
      cases s with | mk a =>
      congr 1
      exact Array.eq_empty_of_size_eq_zero h0
    have hR : nmB s.data.toList = false := nmB_false fun ⟨h1, _⟩ => by omega
    rw [hR]
    subst hs
    clear hR hl h0
    go_enter Tryd.func47, Tryd.ntmps47
    go_wp2
    go_ret
    exact ⟨rfl, Below.refl _ _⟩
  have hne0 : ¬ s.toList = [] := by
    intro h
    have := congrArg List.length h
    rw [show s.toList.length = s.size by rw [← hl, ba_toList]] at this
    exact h0 (by simpa using this)
  have hne : s.toList.isEmpty = false := by simpa using hne0
  by_cases h12 : 12 < s.size
  · have hR : nmB s.data.toList = false := nmB_false fun ⟨_, h1, _⟩ => by omega
    rw [hR]
    clear hR hl
    have h12' : (12 : Int) < (s.size : Int) := by omega
    go_enter Tryd.func47, Tryd.ntmps47
    go_wp2
    all_goals
      go_ret
      exact ⟨rfl, Below.refl _ _⟩
  have hH : Hid (s.data.toList.length = s.size) := hl
  obtain ⟨res, hres⟩ : ∃ r, r = nmB s.data.toList := ⟨_, rfl⟩
  have hHr : Hid (res = nmB s.data.toList) := hres
  rw [← hres]
  clear hl hres
  have h12' : ¬ (12 : Int) < (s.size : Int) := by omega
  go_enter Tryd.func47, Tryd.ntmps47
  go_wp2
  go_loopw [3] (fun i w' => ∃ pos : Nat, w' = w.iter s pos ∧ pos ≤ s.size ∧ Hid (wdP s.data.toList pos)) (fun _ w' => s.size - w'.iterPos w.heap.size)
  case atStart => exact ⟨0, rfl, by omega, fun k b hk => by omega⟩
  case round =>
    obtain ⟨pos, rfl, hpos, hwd⟩ := hrel
    by_cases hp : pos < s.size
    · obtain ⟨c, wd, hdc⟩ : ∃ c wd, Utf8.decode s pos = (c, wd) := ⟨_, _, rfl⟩
      have hnx : ∀ ty, (Instr.next (.pointer (some ⟨w.heap.size, 0, none⟩)) true ty).run Tryd.prog (w.iter s pos) = .ok (.tuple #[.bool true, .int .i64 pos, .int .i32 c]) (w.iter s (pos + wd)) := fun ty => by
        have := run_next_any (P := Tryd.prog) w s pos ty hp
        rw [hdc] at this
        exact this
      by_cases hyes : (97 ≤ c ∧ c ≤ 122) ∨ c = 95 ∨ ((48 ≤ c ∧ c ≤ 57) ∧ 0 < pos)
      · obtain ⟨rfl, hnext⟩ := dec_yes hp hdc hyes hwd.out
        have hN : Hid (wdP s.data.toList (pos + 1)) := hnext
        have hD : Hid (Utf8.decode s pos = (c, 1)) := hdc
        clear hnext hdc
        rcases hyes with ⟨a1, a2⟩ | a1 | ⟨⟨a1, a2⟩, a3⟩
        · have b1 : (97 : Int) ≤ (c : Int) := by omega
          have b2 : (c : Int) ≤ 122 := by omega
          go_wp2
          go_roundw
          case rel => exact ⟨pos + 1, rfl, by omega, hN⟩
          case measure => simp; omega
        · subst a1
          go_wp2
          go_roundw
          case rel => exact ⟨pos + 1, rfl, by omega, hN⟩
          case measure => simp; omega
        · have b1 : ¬ (97 : Int) ≤ (c : Int) := by omega
          have b2 : ¬ (c : Int) = 95 := by omega
          have b3 : (48 : Int) ≤ (c : Int) := by omega
          have b4 : (c : Int) ≤ 57 := by omega
          have b5 : (0 : Int) < (pos : Int) := by omega
          go_wp2
          go_roundw
          case rel => exact ⟨pos + 1, rfl, by omega, hN⟩
          case measure => simp; omega
      · have hno := dec_no hp hdc hyes
        obtain rfl : res = false := hHr.out.trans hno
        have hY : Hid (¬ ((97 ≤ c ∧ c ≤ 122) ∨ c = 95 ∨ ((48 ≤ c ∧ c ≤ 57) ∧ 0 < pos))) := hyes
        clear hno hdc hyes
        go_wp2
        all_goals first
          | (exfalso; have := hY.out; omega)
          | (go_ret; exact ⟨rfl, iter_below _ _ _⟩)
          | (exfalso; have := hY.out; rename_i h9; have h9 := eq_of_beq h9; omega)
    · have hnx : ∀ ty, (Instr.next (.pointer (some ⟨w.heap.size, 0, none⟩)) true ty).run Tryd.prog (w.iter s pos) = _ := fun ty => run_next_end w s pos ty hp
      obtain rfl : pos = s.size := by omega
      obtain rfl : res = true := hHr.out.trans (wdP_ok (by have := hH.out; omega) (by have := hH.out; omega) (by rw [hH.out]; exact hwd.out))
      go_wp2
      go_ret
      exact ⟨rfl, iter_below _ _ _⟩
end Go.Proofs.YthflidjnlnmbiaaDoor
