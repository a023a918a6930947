/- Part 9 of what the law NamesReads rests on. -/
import Derived.Lib.AtoiTie
import Derived.Test.YtlgnjehfojogmaaDoorPkNa1
import Derived.Test.YtlgnjehfojogmaaDoorPkNa2
import Derived.Test.YtlgnjehfojogmaaDoorPkNa3
import Derived.Test.YtlgnjehfojogmaaDoorPkNa4
import Derived.Test.YtlgnjehfojogmaaDoorPkNa5
import Derived.Test.YtlgnjehfojogmaaDoorPkNa6
import Derived.Test.YtlgnjehfojogmaaDoorPkNa7
import Derived.Test.YtlgnjehfojogmaaDoorPkNa8
namespace Go.Proofs.YtlgnjehfojogmaaDoor
open Go.RowKit
set_option linter.unusedSimpArgs false
set_option linter.unusedVariables false

theorem pcs_pre {c : UInt8} {u x : List UInt8} (hu : c ∉ u) : ∀ i, i ≤ u.length → pcs c (u ++ x) i = [] ∧ frm c (u ++ x) i = 0
  | 0, _ => ⟨rfl, rfl⟩
  | i + 1, h => by
    obtain ⟨h1, h2⟩ := pcs_pre (x := x) hu i (by omega)
    have h3 : ¬ (u ++ x)[i]? = some c := by
      rw [List.getElem?_append_left (by omega)]
      intro h4
      exact hu (List.mem_of_getElem? h4)
    unfold pcs frm
    rw [if_neg h3, if_neg h3]
    exact ⟨h1, h2⟩
theorem pcs_app {c : UInt8} {u r : List UInt8} (hu : c ∉ u) : ∀ j, pcs c (u ++ c :: r) (u.length + 1 + j) = u :: pcs c r j ∧ frm c (u ++ c :: r) (u.length + 1 + j) = u.length + 1 + frm c r j
  | 0 => by
    obtain ⟨h1, h2⟩ := pcs_pre (x := c :: r) hu u.length (Nat.le_refl _)
    have h3 : (u ++ c :: r)[u.length]? = some c := by simp
    refine ⟨?_, ?_⟩
    · show pcs c (u ++ c :: r) (u.length + 1) = [u]
      unfold pcs
      rw [if_pos h3, h1, h2]
      simp
    · show frm c (u ++ c :: r) (u.length + 1) = u.length + 1
      unfold frm
      rw [if_pos h3]
  | j + 1 => by
    obtain ⟨h1, h2⟩ := pcs_app (r := r) hu j
    have h3 : (u ++ c :: r)[u.length + 1 + j]? = r[j]? := by
      rw [List.getElem?_append_right (by omega)]
      rw [show u.length + 1 + j - u.length = j + 1 by omega]
      rfl
    have h4 : ((u ++ c :: r).take (u.length + 1 + j)).drop (u.length + 1 + frm c r j) = (r.take j).drop (frm c r j) := by
      rw [show u ++ c :: r = (u ++ [c]) ++ r by simp, show u.length + 1 + j = (u ++ [c]).length + j by simp, List.take_length_add_append, show u.length + 1 + frm c r j = (u ++ [c]).length + frm c r j by simp, List.drop_length_add_append]
    refine ⟨?_, ?_⟩
    · show pcs c (u ++ c :: r) (u.length + 1 + j + 1) = u :: pcs c r (j + 1)
      show (if (u ++ c :: r)[u.length + 1 + j]? = some c then _ else _) = u :: (if r[j]? = some c then _ else _)
      rw [h3]
      split
      · rw [h1, h2, h4]; rfl
      · exact h1
    · show (if (u ++ c :: r)[u.length + 1 + j]? = some c then u.length + 1 + j + 1 else frm c (u ++ c :: r) (u.length + 1 + j)) = u.length + 1 + (if r[j]? = some c then j + 1 else frm c r j)
      rw [h3]
      split
      · omega
      · exact h2
/-- A text of whole lines. -/
def joinL (c : UInt8) (l : List (List UInt8)) : List UInt8 := l.flatMap (· ++ [c])
theorem pcs_join {c : UInt8} : ∀ {l : List (List UInt8)}, (∀ u ∈ l, c ∉ u) → pcs c (joinL c l) (joinL c l).length = l ∧ frm c (joinL c l) (joinL c l).length = (joinL c l).length
  | [], _ => ⟨rfl, rfl⟩
  | u :: l, h => by
    obtain ⟨h1, h2⟩ := pcs_join (l := l) fun v hv => h v (List.mem_cons_of_mem _ hv)
    have e : joinL c (u :: l) = u ++ c :: joinL c l := by simp [joinL]
    obtain ⟨h3, h4⟩ := pcs_app (c := c) (u := u) (r := joinL c l) (h u List.mem_cons_self) (joinL c l).length
    have el : (joinL c (u :: l)).length = u.length + 1 + (joinL c l).length := by rw [e]; simp; omega
    rw [el, e, h3, h4, h1, h2]
    exact ⟨rfl, rfl⟩
/-- The pieces that are closed, put together again. -/
theorem join_pcs {c : UInt8} {t : List UInt8} : ∀ i, i ≤ t.length → joinL c (pcs c t i) = t.take (frm c t i)
  | 0, _ => rfl
  | i + 1, h => by
    have ih := join_pcs (c := c) (t := t) i (by omega)
    have hf := frm_le c t i
    show joinL c (if t[i]? = some c then pcs c t i ++ [(t.take i).drop (frm c t i)] else pcs c t i) = t.take (if t[i]? = some c then i + 1 else frm c t i)
    by_cases e : t[i]? = some c
    · rw [if_pos e, if_pos e]
      unfold joinL at ih ⊢
      rw [List.flatMap_append, ih, List.take_add_one, e]
      simp only [List.flatMap_cons, List.flatMap_nil, List.append_nil, Option.toList]
      rw [← List.append_assoc, show t.take (frm c t i) = (t.take i).take (frm c t i) by rw [List.take_take, Nat.min_eq_left hf], List.take_append_drop]
    · rw [if_neg e, if_neg e]
      exact ih
theorem frm_no {c : UInt8} {t : List UInt8} : ∀ i k, frm c t i ≤ k → k < i → t[k]? ≠ some c
  | 0, k, _, h => absurd h (by omega)
  | i + 1, k, h, hk => by
    have hs : frm c t (i + 1) = if t[i]? = some c then i + 1 else frm c t i := rfl
    rw [hs] at h
    by_cases e : t[i]? = some c
    · rw [if_pos e] at h; omega
    · rw [if_neg e] at h
      by_cases hki : k = i
      · subst hki; exact e
      · exact frm_no i k h (by omega)
theorem pcs_no {c : UInt8} {t : List UInt8} : ∀ i, ∀ u ∈ pcs c t i, c ∉ u
  | 0, u, h => by cases h
  | i + 1, u, h => by
    have hs : pcs c t (i + 1) = if t[i]? = some c then pcs c t i ++ [(t.take i).drop (frm c t i)] else pcs c t i := rfl
    rw [hs] at h
    by_cases e : t[i]? = some c
    · rw [if_pos e] at h
      rcases List.mem_append.1 h with h | h
      · exact pcs_no i u h
      · simp only [List.mem_singleton] at h
        subst h
        intro hc
        obtain ⟨k, hk⟩ := List.getElem?_of_mem hc
        rw [List.getElem?_drop, List.getElem?_take] at hk
        split at hk
        · exact frm_no i _ (Nat.le_add_right _ _) (by assumption) hk
        · cases hk
    · rw [if_neg e] at h
      exact pcs_no i u h
theorem pcsE_pre {c : UInt8} {t : List UInt8} : ∀ i, i ≤ t.length → pcsE c t i = pcs c t i ∧ frmE c t i = frm c t i
  | 0, _ => ⟨rfl, rfl⟩
  | i + 1, h => by
    obtain ⟨h1, h2⟩ := pcsE_pre (c := c) (t := t) i (by omega)
    have hne : ¬ i = t.length := by omega
    have e1 : pcsE c t (i + 1) = if i = t.length ∨ t[i]? = some c then pcsE c t i ++ [(t.take i).drop (frmE c t i)] else pcsE c t i := rfl
    have e2 : frmE c t (i + 1) = if i = t.length ∨ t[i]? = some c then i + 1 else frmE c t i := rfl
    have e3 : pcs c t (i + 1) = if t[i]? = some c then pcs c t i ++ [(t.take i).drop (frm c t i)] else pcs c t i := rfl
    have e4 : frm c t (i + 1) = if t[i]? = some c then i + 1 else frm c t i := rfl
    rw [e1, e2, e3, e4, h1, h2]
    by_cases e : t[i]? = some c
    · rw [if_pos e, if_pos e, if_pos (.inr e), if_pos (.inr e)]
      exact ⟨rfl, rfl⟩
    · have e' : ¬ (i = t.length ∨ t[i]? = some c) := fun h => h.elim hne e
      rw [if_neg e, if_neg e, if_neg e', if_neg e']
      exact ⟨rfl, rfl⟩
theorem pcsE_end (c : UInt8) (t : List UInt8) : pcsE c t (t.length + 1) = pcs c t t.length ++ [t.drop (frm c t t.length)] := by
  obtain ⟨h1, h2⟩ := pcsE_pre (c := c) (t := t) t.length (Nat.le_refl _)
  have e1 : pcsE c t (t.length + 1) = if t.length = t.length ∨ t[t.length]? = some c then pcsE c t t.length ++ [(t.take t.length).drop (frmE c t t.length)] else pcsE c t t.length := rfl
  rw [e1, if_pos (.inl rfl), h1, h2, List.take_length]
theorem prt_two {p q : List UInt8} (hp : (32 : UInt8) ∉ p) (hq : (32 : UInt8) ∉ q) : prt (p ++ 32 :: q) = [p, q] := by
  unfold prt
  rw [pcsE_end]
  obtain ⟨h1, h2⟩ := pcs_app (c := 32) (u := p) (r := q) hp q.length
  obtain ⟨h3, h4⟩ := pcs_pre (c := 32) (u := q) (x := []) hq q.length (Nat.le_refl _)
  rw [List.append_nil] at h3 h4
  have el : (p ++ 32 :: q).length = p.length + 1 + q.length := by simp; omega
  rw [el, h1, h2, h3, h4, show p ++ 32 :: q = (p ++ [32]) ++ q by simp, show p.length + 1 + 0 = (p ++ [(32 : UInt8)]).length by simp, List.drop_left]
  rfl
theorem of_prt_two {u p q : List UInt8} (h : prt u = [p, q]) : u = p ++ 32 :: q ∧ (32 : UInt8) ∉ p ∧ (32 : UInt8) ∉ q := by
  unfold prt at h
  rw [pcsE_end] at h
  obtain ⟨h1, h2⟩ := List.append_inj' (s₁ := pcs 32 u u.length) (s₂ := [p]) (t₁ := [u.drop (frm 32 u u.length)]) (t₂ := [q]) (by simpa using h) rfl
  simp only [List.cons.injEq, and_true] at h2
  have h3 := join_pcs (c := 32) (t := u) u.length (Nat.le_refl _)
  have hno := pcs_no (c := 32) (t := u) u.length
  rw [h1] at h3 hno
  refine ⟨?_, hno p List.mem_cons_self, fun hq => ?_⟩
  · rw [← List.take_append_drop (frm 32 u u.length) u, ← h3, h2]
    simp [joinL]
  · rw [← h2] at hq
    obtain ⟨k, hk⟩ := List.getElem?_of_mem hq
    rw [List.getElem?_drop] at hk
    obtain ⟨hlt, _⟩ := List.getElem?_eq_some_iff.1 hk
    exact frm_no u.length _ (Nat.le_add_right _ _) hlt hk
theorem decFrom_snoc : ∀ (r : List UInt8) (acc : Nat) (d : UInt8), Lib.decFrom acc (r ++ [d]) = (Lib.decFrom acc r).bind fun m => (Lib.digitVal d).map fun v => m * 10 + v
  | [], acc, d => by
    simp only [List.nil_append, Lib.decFrom, Option.bind_some]
    cases Lib.digitVal d <;> rfl
  | b :: r, acc, d => by
    simp only [List.cons_append, Lib.decFrom]
    cases Lib.digitVal b with
    | none => rfl
    | some v => exact decFrom_snoc r _ d
theorem digits_big {n : Nat} (h : ¬ n < 10) : Lib.decDigits n = Lib.decDigits (n / 10) ++ [UInt8.ofNat (48 + n % 10)] := by rw [Lib.decDigits, dif_neg h]
theorem ofNat_toNat {v : Nat} (h : v < 10) : (UInt8.ofNat (48 + v)).toNat = 48 + v := by
  simp only [UInt8.toNat_ofNat']
  omega
theorem digit_of {v : Nat} (h : v < 10) : Lib.digitVal (UInt8.ofNat (48 + v)) = some v := by
  unfold Lib.digitVal
  rw [ofNat_toNat h, if_pos (by omega)]
  congr 1
  omega
/-- The digits of a number spell it, with no nought ahead. -/
theorem digits_spell (n : Nat) : Lib.decFrom 0 (Lib.decDigits n) = some n ∧ Lib.decDigits n ≠ [] ∧ (1 ≤ n → (Lib.decDigits n)[0]? ≠ some 48) ∧ (Lib.decDigits n)[0]? ≠ some 45 ∧ (Lib.decDigits n)[0]? ≠ some 43 := by
  induction n using Nat.strongRecOn with
  | _ n ih =>
    by_cases h : n < 10
    · rw [Lib.decDigits_one h]
      refine ⟨?_, by simp, fun h1 h2 => ?_, fun h2 => ?_, fun h2 => ?_⟩
      · simp only [Lib.decFrom, digit_of h]
        simp
      all_goals
        simp only [List.getElem?_cons_zero, Option.some.injEq] at h2
        have := congrArg UInt8.toNat h2
        rw [ofNat_toNat h] at this
        simp at this
        try omega
    · obtain ⟨h1, h2, h3, h4, h5⟩ := ih (n / 10) (by omega)
      rw [digits_big h]
      have h0 : ∀ x : UInt8, (Lib.decDigits (n / 10))[0]? ≠ some x → (Lib.decDigits (n / 10) ++ [UInt8.ofNat (48 + n % 10)])[0]? ≠ some x := fun x hx => by
        rw [List.getElem?_append_left (List.length_pos_iff.2 h2)]
        exact hx
      refine ⟨?_, by simp, fun _ => h0 _ (h3 (by omega)), h0 _ h4, h0 _ h5⟩
      rw [decFrom_snoc, h1, digit_of (by omega)]
      simp only [Option.bind_some, Option.map_some, Option.some.injEq]
      omega
theorem digitVal_inv {d : UInt8} {v : Nat} (h : Lib.digitVal d = some v) : v < 10 ∧ d = UInt8.ofNat (48 + v) := by
  unfold Lib.digitVal at h
  split at h
  · rename_i hd
    simp only [Option.some.injEq] at h
    subst h
    refine ⟨by omega, UInt8.toNat_inj.1 ?_⟩
    rw [ofNat_toNat (by omega)]
    omega
  · cases h
/-- Digits without a nought ahead are those of the number that they spell. -/
theorem digits_only (k : Nat) : ∀ (q : List UInt8) (n : Nat), q.length = k → q ≠ [] → ¬ (q[0]? = some 48 ∧ 1 < q.length) → Lib.decFrom 0 q = some n → q = Lib.decDigits n := by
  induction k with
  | zero => intro q n h1 h2; exact absurd (List.length_eq_zero_iff.1 h1) h2
  | succ k ih =>
    intro q n hk hne hcan hd
    obtain ⟨r, d, rfl⟩ : ∃ r d, q = r ++ [d] := ⟨q.dropLast, q.getLast hne, (List.dropLast_concat_getLast hne).symm⟩
    rw [decFrom_snoc] at hd
    cases hr : Lib.decFrom 0 r with
    | none => rw [hr] at hd; cases hd
    | some m =>
      cases hv : Lib.digitVal d with
      | none => rw [hr, hv] at hd; cases hd
      | some v =>
        rw [hr, hv] at hd
        simp only [Option.bind_some, Option.map_some, Option.some.injEq] at hd
        obtain ⟨hv10, rfl⟩ := digitVal_inv hv
        by_cases h0 : r = []
        · subst h0
          simp only [Lib.decFrom, Option.some.injEq] at hr
          subst hr
          rw [Lib.decDigits_one (by omega), ← hd]
          simp
        · have hlen : 0 < r.length := List.length_pos_iff.2 h0
          have hr0 : r[0]? ≠ some 48 := fun h => hcan ⟨by rw [List.getElem?_append_left hlen]; exact h, by simp; omega⟩
          have hrd := ih r m (by simpa using hk) h0 (fun h => hr0 h.1) hr
          have hm : 1 ≤ m := by
            refine Classical.byContradiction fun hm => ?_
            obtain rfl : m = 0 := by omega
            rw [Lib.decDigits_one (by omega)] at hrd
            rw [hrd] at hr0
            exact hr0 rfl
          rw [digits_big (n := n) (by omega), show n / 10 = m by omega, show n % 10 = v by omega, ← hrd]
theorem numM_only {q : List UInt8} {b : Int} (h : numM 1000 q = b) (h1 : 1 ≤ b) (h2 : b ≤ 1000) : q = Lib.decDigits b.toNat := by
  unfold numM at h
  split at h
  · omega
  split at h
  · omega
  rename_i h3 h4
  cases hd : Lib.decFrom 0 q with
  | none => rw [hd] at h; simp only at h; omega
  | some n =>
    rw [hd] at h
    simp only at h
    split at h
    · omega
    · have := digits_only q.length q n rfl (fun e => h4 (.inl e)) (fun e => h4 (.inr e)) hd
      rw [this, show b.toNat = n by omega]
/-- A line of the table, without its line feed. -/
def uL (x : Nm) : List UInt8 := x.t.data.toList ++ 32 :: Lib.decDigits x.b.toNat
theorem nmLine_bytes (x : Nm) : (nmLine x).data.toList = uL x ++ [10] := by
  unfold nmLine uL decS
  simp [ByteArray.data_append]
theorem nmS_bytes (A : List Nm) : (nmS A).data.toList = joinL 10 (A.map uL) := by
  have key : ∀ (A : List Nm) (s0 : ByteArray), (A.foldl (fun s x => s ++ nmLine x) s0).data.toList = s0.data.toList ++ joinL 10 (A.map uL) := by
    intro A
    induction A with
    | nil => intro s0; simp [joinL]
    | cons x A ih =>
      intro s0
      rw [List.foldl_cons, ih, show (s0 ++ nmLine x).data.toList = s0.data.toList ++ (uL x ++ [10]) by rw [← nmLine_bytes]; simp [ByteArray.data_append]]
      simp [joinL]
  unfold nmS
  rw [key]
  rfl
theorem lab_of {A : List Nm} (h : nmF A = 0) {x : Nm} (hx : x ∈ A) : 1 ≤ x.b ∧ x.b ≤ 1000 ∧ nmB x.t.data.toList = true := by
  obtain ⟨_, h1, h2, _⟩ := nmF_0 h
  obtain ⟨i, hi⟩ := List.getElem?_of_mem hx
  have hlt := (List.getElem?_eq_some_iff.1 hi).1
  exact ⟨(h1 i x hlt hi).1, (h1 i x hlt hi).2, h2 i x hlt hi⟩
/-- What the document has read is the text that its table shows. -/
theorem rr_shows {t : List UInt8} (hx : ¬ rrX t) (h0 : nmF (rrA t) = 0) : nmS (rrA t) = bs t := by
  have hfr : frm 10 t t.length = t.length := Classical.byContradiction fun h => hx (.inl h)
  have hb : ∀ (i : Nat) (x : List UInt8), (rrL t)[i]? = some x → (prt x).length = 2 := fun i x h => Classical.byContradiction fun hn => hx (.inr (.inr ⟨i, x, h, hn⟩))
  refine bs_ext ?_
  rw [nmS_bytes, bs_list]
  have hj := join_pcs (c := 10) (t := t) t.length (Nat.le_refl _)
  rw [hfr, List.take_length] at hj
  have hm : (rrA t).map uL = rrL t := by
    unfold rrA
    rw [List.map_map]
    refine (List.map_congr_left fun u hu => ?_).trans (List.map_id _)
    obtain ⟨i, hi⟩ := List.getElem?_of_mem hu
    have h2 := hb i u hi
    obtain ⟨p, q, hpq⟩ : ∃ p q, prt u = [p, q] := by
      match hh : prt u, h2 with
      | [p, q], _ => exact ⟨p, q, rfl⟩
    obtain ⟨e, _, _⟩ := of_prt_two hpq
    have hr : rrN u = ⟨bs p, numM 1000 q⟩ := by unfold rrN; rw [hpq]; rfl
    obtain ⟨h3, h4, _⟩ := lab_of h0 (x := rrN u) (List.mem_map_of_mem hu)
    rw [hr] at h3 h4
    have hq := numM_only (q := q) rfl h3 h4
    show uL (rrN u) = id u
    rw [hr]
    unfold uL
    simp only [bs_list, ← hq, id]
    exact e.symm
  rw [hm]
  exact hj
theorem digits_len : ∀ (k n : Nat), n < 10 ^ (k + 1) → (Lib.decDigits n).length ≤ k + 1
  | 0, n, h => by rw [Lib.decDigits_one (by simpa using h)]; simp
  | k + 1, n, h => by
    by_cases h10 : n < 10
    · rw [Lib.decDigits_one h10]; simp
    · rw [digits_big h10, List.length_append]
      have := digits_len k (n / 10) (by rw [Nat.pow_succ] at h; omega)
      simp only [List.length_cons, List.length_nil]
      omega
theorem digits_byte {n : Nat} {b : UInt8} (h : b ∈ Lib.decDigits n) : 48 ≤ b.toNat ∧ b.toNat ≤ 57 := by
  obtain ⟨k, hk⟩ := List.getElem?_of_mem h
  obtain ⟨d, hd⟩ := Lib.digit_of_decFrom _ 0 n (digits_spell n).1 k b hk
  obtain ⟨h1, rfl⟩ := digitVal_inv hd
  rw [ofNat_toNat h1]
  omega
theorem numM_digits {n : Nat} (h1 : 1 ≤ n) (h2 : n ≤ 1000) : numM 1000 (Lib.decDigits n) = n := by
  obtain ⟨s1, s2, s3, _, _⟩ := digits_spell n
  have hl := digits_len 3 n (by omega)
  unfold numM
  rw [if_neg (by omega), if_neg (fun h => h.elim s2 fun h => s3 h1 h.1), s1]
  simp only
  rw [if_neg (by omega)]
theorem nmB_byte {l : List UInt8} (h : nmB l = true) {b : UInt8} (hb : b ∈ l) : b.toNat ≠ 10 ∧ b.toNat ≠ 32 := by
  have hp : nmP l := Classical.byContradiction fun hn => by rw [nmB_false hn] at h; cases h
  obtain ⟨k, hk⟩ := List.getElem?_of_mem hb
  rcases hp.2.2 k b hk with h1 | ⟨h1, _⟩
  · unfold chLet at h1; omega
  · unfold chDig at h1; omega
theorem uL_no {x : Nm} (h : nmB x.t.data.toList = true) : (10 : UInt8) ∉ uL x ∧ (32 : UInt8) ∉ x.t.data.toList ∧ (32 : UInt8) ∉ Lib.decDigits x.b.toNat := by
  refine ⟨fun hm => ?_, fun hm => (nmB_byte h hm).2 rfl, fun hm => by have := digits_byte hm; simp at this⟩
  unfold uL at hm
  rcases List.mem_append.1 hm with hm | hm
  · exact (nmB_byte h hm).1 rfl
  · rcases List.mem_cons.1 hm with hm | hm
    · exact absurd hm (by decide)
    · have := digits_byte hm; simp at this
theorem idx_no {c : UInt8} {q : List UInt8} : ∀ {p : List UInt8}, c ∉ p → Lib.indexByte (p ++ c :: q) c = p.length
  | [], _ => by simp [Lib.indexByte]
  | b :: p, h => by
    have ih := idx_no (q := q) (p := p) fun hm => h (List.mem_cons_of_mem _ hm)
    have hb : (b == c) = false := by
      rw [beq_eq_false_iff_ne]
      rintro rfl
      exact h List.mem_cons_self
    have hn : ¬ ((p.length : Int) = -1) := by omega
    simp [Lib.indexByte, hb, ih, hn]
theorem cut_at {p q : List UInt8} (h : (32 : UInt8) ∉ p) : Lib.cut (p ++ 32 :: q) [32] = (p, q, true) := by
  have e := (Lib.index_one (p ++ 32 :: q) 32).trans (idx_no h)
  unfold Lib.cut
  rw [e, if_pos (by omega), Int.toNat_natCast, List.take_left, show p ++ 32 :: q = (p ++ [32]) ++ q by simp, show p.length + ([32] : List UInt8).length = (p ++ [(32 : UInt8)]).length by simp, List.drop_left]
theorem trim_at (d : List UInt8) : Lib.trimSuffix (d ++ [10]) [10] = d := by
  unfold Lib.trimSuffix Lib.hasSuffix
  rw [if_pos (List.isSuffixOf_iff_suffix.2 ⟨d, rfl⟩)]
  simp
theorem atoi_digits {n : Nat} (h : n ≤ 1000) : atoiV (Lib.decDigits n) = n := by
  obtain ⟨s1, s2, _, s4, s5⟩ := digits_spell n
  have hl := digits_len 3 n (by omega)
  unfold atoiV
  rw [Lib.atoiAll_short _ (by omega)]
  cases hd : Lib.decDigits n with
  | nil => exact absurd hd s2
  | cons c r =>
    rw [hd] at s1 s4 s5
    have h45 : c ≠ 45 := fun e => s4 (by rw [e]; rfl)
    have h43 : c ≠ 43 := fun e => s5 (by rw [e]; rfl)
    simp [Lib.atoi, h45, h43, Lib.decNat, s1, Lib.NumEnd.ofOption]
theorem ln_at {r : List UInt8} : ∀ {u : List UInt8}, (10 : UInt8) ∉ u → ln1 (u ++ 10 :: r) = u ++ [10] ∧ ln2 (u ++ 10 :: r) = r
  | [], _ => ⟨by simp [ln1], by simp [ln2]⟩
  | b :: u, h => by
    obtain ⟨h1, h2⟩ := ln_at (r := r) (u := u) fun hm => h (List.mem_cons_of_mem _ hm)
    have hb : ¬ b = 10 := by
      rintro rfl
      exact h List.mem_cons_self
    rw [List.cons_append]
    unfold ln1 ln2
    rw [if_neg hb, if_neg hb, h1, h2]
    exact ⟨rfl, rfl⟩
theorem lns_join : ∀ {l : List (List UInt8)}, (∀ u ∈ l, (10 : UInt8) ∉ u) → lns (joinL 10 l) = l.map (· ++ [10])
  | [], _ => lns_nil
  | u :: l, h => by
    have e : joinL 10 (u :: l) = u ++ 10 :: joinL 10 l := by simp [joinL]
    obtain ⟨h1, h2⟩ := ln_at (r := joinL 10 l) (h u List.mem_cons_self)
    rw [e, lns_cons (by simp), h1, h2, lns_join fun v hv => h v (List.mem_cons_of_mem _ hv)]
    rfl
theorem text_of {A : List Nm} {t : List UInt8} (h : nmS A = bs t) : t = joinL 10 (A.map uL) := by
  rw [← nmS_bytes, h, bs_list]
theorem uLs_no {A : List Nm} (h : nmF A = 0) : ∀ u ∈ A.map uL, (10 : UInt8) ∉ u := fun u hu => by
  obtain ⟨x, hx, rfl⟩ := List.mem_map.1 hu
  exact (uL_no (lab_of h hx).2.2).1
/-- What shows a table's text is read as the table: by the program .. -/
theorem rd_of {A : List Nm} {t : List UInt8} (h0 : nmF A = 0) (h : nmS A = bs t) : rdA t = A := by
  unfold rdA
  rw [text_of h, lns_join (uLs_no h0), List.map_map, List.map_map]
  refine (List.map_congr_left fun x hx => ?_).trans (List.map_id _)
  obtain ⟨h1, h2, h3⟩ := lab_of h0 hx
  obtain ⟨_, h4, _⟩ := uL_no h3
  show rdN (uL x ++ [10]) = x
  unfold rdN uL
  rw [show (x.t.data.toList ++ 32 :: Lib.decDigits x.b.toNat) ++ [10] = x.t.data.toList ++ 32 :: (Lib.decDigits x.b.toNat ++ [10]) by simp, cut_at h4]
  simp only
  rw [trim_at, atoi_digits (by omega), bs_of, Int.toNat_of_nonneg (by omega)]
/-- .. and by the document. -/
theorem rr_of {A : List Nm} {t : List UInt8} (h0 : nmF A = 0) (h : nmS A = bs t) : ¬ rrX t ∧ rrA t = A := by
  have ht := text_of h
  obtain ⟨p1, p2⟩ := pcs_join (c := 10) (uLs_no h0)
  rw [← ht] at p1 p2
  have hL : rrL t = A.map uL := p1
  have hP : ∀ x ∈ A, prt (uL x) = [x.t.data.toList, Lib.decDigits x.b.toNat] := fun x hx => by
    obtain ⟨_, h4, h5⟩ := uL_no (lab_of h0 hx).2.2
    exact prt_two h4 h5
  refine ⟨?_, ?_⟩
  · rintro (hx | hx | ⟨i, x, hi, hx⟩)
    · exact hx p2
    · rw [hL, List.length_map] at hx
      exact (nmF_0 h0).1 hx
    · rw [hL] at hi
      obtain ⟨y, hy, rfl⟩ := List.mem_map.1 (List.mem_of_getElem? hi)
      rw [hP y hy] at hx
      exact hx rfl
  · unfold rrA
    rw [hL, List.map_map]
    refine (List.map_congr_left fun x hx => ?_).trans (List.map_id _)
    obtain ⟨h1, h2, _⟩ := lab_of h0 hx
    show rrN (uL x) = x
    unfold rrN
    rw [hP x hx]
    show (⟨bs x.t.data.toList, numM 1000 (Lib.decDigits x.b.toNat)⟩ : Nm) = x
    rw [numM_digits (by omega) (by omega), bs_of, Int.toNat_of_nonneg (by omega)]
/-- The program and the document read alike. -/
theorem rd_rr (t : List UInt8) : rdE t = rrE t ∧ (rrE t = 0 → rdA t = rrA t) := by
  by_cases hbig : 20000 < t.length
  · have e1 : rdE t = 1 := by unfold rdE; rw [if_pos hbig]
    have e2 : rrE t = 1 := by unfold rrE; rw [if_pos hbig]
    exact ⟨e1.trans e2.symm, fun h => by rw [e2] at h; cases h⟩
  · by_cases hr : ¬ rrX t ∧ nmF (rrA t) = 0
    · obtain ⟨hx, h0⟩ := hr
      have hs := rr_shows hx h0
      have hd := rd_of h0 hs
      have e1 : rdE t = 0 := by unfold rdE; rw [if_neg hbig, hd, if_pos ⟨h0, hs⟩]
      exact ⟨e1.trans (rrE_ok hbig hx h0).symm, fun _ => hd⟩
    · have e2 : rrE t = 3 := by
        by_cases hx : rrX t
        · exact rrE_bad hbig hx
        · exact rrE_no hbig hx fun h0 => hr ⟨hx, h0⟩
      have e1 : rdE t = 3 := by
        unfold rdE
        rw [if_neg hbig, if_neg]
        rintro ⟨h0, hs⟩
        obtain ⟨hx, hA⟩ := rr_of h0 hs
        exact hr ⟨hx, by rw [hA]; exact h0⟩
      exact ⟨e1.trans e2.symm, fun h => by rw [e2] at h; cases h⟩
end Go.Proofs.YtlgnjehfojogmaaDoor
namespace Go.Proofs.YtlgnjehfojogmaaDoor
open Go.RowKit
set_option linter.unusedSimpArgs false
set_option linter.unusedVariables false
set_option maxRecDepth 100000

theorem cmp_neq_51F {c : Cx} {s : S} {o : Oper} {t' : TypeId} {x y : Operand} {a b : Nm} (hP : c.P = Tryd.prog) (ho : o.op = .binOp .neq 51 x y t') (hx : s.ev x = some (.agg ((nmD a).map V.d))) (hy : s.ev y = some (.agg ((nmD b).map V.d))) (h : a = b) : RP c o s (.b false) := by
 subst h
 refine rp_bin_agg [.string a.t, .int .i64 a.b] [.string a.t, .int .i64 a.b] ho hx hy (fun w => ?_) (fun w => ?_)
 ·rw [hP]; simp [go_sem]
 ·rw [hP]; simp [go_sem]
theorem am_sameNames (l : List Nm) : Fn Tryd.prog 8 [.d (nmsD l), .d (nmsD l)] (fun v => v = .b true) := by
 refine Fn.sl 0 rfl fun hb => ?_
 obtain ⟨n, hn⟩ : ∃ n, l.length = n := ⟨_, rfl⟩
 rw [List.length_map, hn] at hb
 refine Fn.intro (n := 26) ⟨Tryd.func8, rfl, rfl, rfl, rfl⟩ (by simp [V.pure, V.has, V.hasL]) (by simp) fun w0 out => ?_
 refine AW.seq ?_
 refine AW.region ?_
 refine AL.rp rfl rfl (rp_assign rfl rfl) ?_
 refine AL.nil ?_
 try simp only [thenS, S.put, enum, List.nil_append, List.cons_append, List.append_nil, Nat.zero_add, Nat.reduceAdd]
 refine AW.seq ?_
 refine AW.seq ?_
 refine AW.region ?_
 refine AL.rp rfl rfl (rp_move rfl rfl) ?_
 (first | (refine AL.rp rfl rfl (rp_len_map Tryd.underlying22 rfl rfl (by assumption)) ?_) | (refine AL.rp rfl rfl (rp_len_own Tryd.underlying22 rfl rfl) ?_) | (refine AL.rp rfl rfl (rp_len_sl Tryd.underlying22 rfl rfl) ?_) | (refine AL.rp rfl rfl (rp_len_nil Tryd.underlying22 rfl rfl) ?_) | (refine AL.rp rfl rfl (rp_len_str Tryd.underlying22 rfl rfl) ?_))
 refine AL.rp rfl rfl (rp_move rfl rfl) ?_
 (first | (refine AL.rp rfl rfl (rp_len_map Tryd.underlying22 rfl rfl (by assumption)) ?_) | (refine AL.rp rfl rfl (rp_len_own Tryd.underlying22 rfl rfl) ?_) | (refine AL.rp rfl rfl (rp_len_sl Tryd.underlying22 rfl rfl) ?_) | (refine AL.rp rfl rfl (rp_len_nil Tryd.underlying22 rfl rfl) ?_) | (refine AL.rp rfl rfl (rp_len_str Tryd.underlying22 rfl rfl) ?_))
 (first | (refine AL.rp rfl rfl (rp_neqT rfl rfl rfl (by first | assumption | omega | (dsimp only; omega))) ?_) | (refine AL.rp rfl rfl (rp_neqF rfl rfl rfl (by first | assumption | omega | (dsimp only; omega))) ?_) | (refine AL.rp rfl rfl (rp_neq rfl rfl rfl) ?_))
 refine AL.nil ?_
 try simp only [thenS, S.put]
 refine AW.condF rfl ?_
 refine AW.skip ?_
 try simp only [thenS]
 refine AW.seq ?_
 refine AW.seq ?_
 refine AW.region ?_
 refine AL.rp rfl rfl (rp_assign rfl rfl) ?_
 refine AL.nil ?_
 try simp only [thenS, S.put]
 refine AW.block ?_
 refine AW.loop (fun s' => ∃ k : Nat, k ≤ n ∧ s' = ⟨26, [(0, .d (nmsD l)), (1, .d (nmsD l)), (5, .i k)], [], []⟩) (fun s' => n - s'.nat 5) ⟨_, ?_, 0, by omega, rfl⟩ ?_
 ·exact (Less.of rfl (by repeat (first | exact trivial | refine ⟨⟨_, rfl, Wk.refl _⟩, ?_⟩ | refine ⟨⟨_, rfl, Wk.nil _ _⟩, ?_⟩ | refine ⟨⟨_, rfl, Wk.junk _⟩, ?_⟩)) (by repeat (first | exact trivial | refine ⟨rfl, ?_⟩)) rfl)
 rintro s' ⟨k, hk, rfl⟩
 by_cases hlt : k < n
 ·obtain ⟨x, hx⟩ := get_lt hn hlt
  refine AW.seq ?_
  refine AW.seq ?_
  refine AW.region ?_
  refine AL.rp rfl rfl (rp_move rfl rfl) ?_
  refine AL.rp rfl rfl (rp_move rfl rfl) ?_
  (first | (refine AL.rp rfl rfl (rp_len_map Tryd.underlying22 rfl rfl (by assumption)) ?_) | (refine AL.rp rfl rfl (rp_len_own Tryd.underlying22 rfl rfl) ?_) | (refine AL.rp rfl rfl (rp_len_sl Tryd.underlying22 rfl rfl) ?_) | (refine AL.rp rfl rfl (rp_len_nil Tryd.underlying22 rfl rfl) ?_) | (refine AL.rp rfl rfl (rp_len_str Tryd.underlying22 rfl rfl) ?_))
  (first | (refine AL.rp rfl rfl (rp_lssT rfl rfl rfl (by first | assumption | omega | (dsimp only; omega))) ?_) | (refine AL.rp rfl rfl (rp_lssF rfl rfl rfl (by first | assumption | omega | (dsimp only; omega))) ?_) | (refine AL.rp rfl rfl (rp_lss rfl rfl rfl) ?_))
  refine AL.nil ?_
  try simp only [thenS, S.put]
  refine AW.condT rfl ?_
  refine AW.skip ?_
  try simp only [thenS]
  refine AW.seq ?_
  refine AW.block ?_
  refine AW.seq ?_
  refine AW.draw [(0, true), (1, true), (2, true), (3, true), (4, true), (5, true), (6, true), (7, true), (8, true)] (fun i => !([] : List Nat).contains i) 9 (by kernel_rfl) (by kernel_rfl) rfl (by kernel_rfl) ?_
  refine AD1.rp rfl rfl rfl (fun _ _ h => h) (rp_move rfl rfl) ?_
  refine AD1.rp rfl rfl rfl (fun _ _ h => h) (rp_move rfl rfl) ?_
  (first | (refine AD1.rp rfl rfl rfl (fun _ _ h => h) (rp_index_map Tryd.underlying22 inf51 rfl rfl rfl rfl (by assumption)) ?_) | (refine AD1.rp rfl rfl rfl (fun _ _ h => h) (rp_index_own Tryd.underlying22 inf51 rfl rfl rfl rfl (by first | assumption | omega)) ?_) | (refine AD1.rp rfl rfl rfl (fun _ _ h => h) (rd_index_sl Tryd.underlying22 inf51 rfl rfl rfl rfl (by assumption)) ?_) | (refine AD1.rp rfl rfl rfl (fun _ _ h => h) (rp_index_own Tryd.underlying22 inf51 rfl rfl rfl (by omega) (by omega)) ?_))
  (first | (refine AD1.rd rfl rfl rfl (fun _ _ h => h) (rd_loads_ref Tryd.underlying51 rfl inf51 rfl rfl rfl rfl rfl rfl) ?_) | (refine AD1.rd rfl rfl rfl (fun _ _ h => h) (rd_loads_ad Tryd.underlying51 rfl inf51 rfl rfl rfl rfl) ?_))
  refine AD1.rp rfl rfl rfl (fun _ _ h => h) (rp_move rfl rfl) ?_
  refine AD1.rp rfl rfl rfl (fun _ _ h => h) (rp_move rfl rfl) ?_
  (first | (refine AD1.rp rfl rfl rfl (fun _ _ h => h) (rp_index_map Tryd.underlying22 inf51 rfl rfl rfl rfl (by assumption)) ?_) | (refine AD1.rp rfl rfl rfl (fun _ _ h => h) (rp_index_own Tryd.underlying22 inf51 rfl rfl rfl rfl (by first | assumption | omega)) ?_) | (refine AD1.rp rfl rfl rfl (fun _ _ h => h) (rd_index_sl Tryd.underlying22 inf51 rfl rfl rfl rfl (by assumption)) ?_) | (refine AD1.rp rfl rfl rfl (fun _ _ h => h) (rp_index_own Tryd.underlying22 inf51 rfl rfl rfl (by omega) (by omega)) ?_))
  (first | (refine AD1.rd rfl rfl rfl (fun _ _ h => h) (rd_loads_ref Tryd.underlying51 rfl inf51 rfl rfl rfl rfl rfl rfl) ?_) | (refine AD1.rd rfl rfl rfl (fun _ _ h => h) (rd_loads_ad Tryd.underlying51 rfl inf51 rfl rfl rfl rfl) ?_))
  refine AD1.rp rfl rfl rfl (fun _ _ h => h) (cmp_neq_51F rfl rfl rfl rfl (by first | assumption | rfl)) ?_
  refine AD1.nil ?_
  try simp only [thenS, S.put]
  refine AW.condF rfl ?_
  refine AW.skip ?_
  try simp only [thenS]
  refine AW.region ?_
  refine AL.rp rfl rfl (rp_move rfl rfl) ?_
  refine AL.rp rfl rfl (rp_add rfl rfl rfl (by first | omega | (dsimp only; omega))) ?_
  refine AL.rp rfl rfl (rp_assign rfl rfl) ?_
  refine AL.nil ?_
  try simp only [thenS, S.put]
  refine ⟨_, ?_, ⟨k + 1, by omega, rfl⟩, ?_⟩
  ·exact (Less.of rfl (by repeat (first | exact trivial | refine ⟨⟨_, rfl, Wk.refl _⟩, ?_⟩ | refine ⟨⟨_, rfl, Wk.nil _ _⟩, ?_⟩ | refine ⟨⟨_, rfl, Wk.junk _⟩, ?_⟩)) (by repeat (first | exact trivial | refine ⟨rfl, ?_⟩)) rfl)
  ·simp [S.nat, fnd]; omega
 ·skip
  refine AW.seq ?_
  refine AW.seq ?_
  refine AW.region ?_
  refine AL.rp rfl rfl (rp_move rfl rfl) ?_
  refine AL.rp rfl rfl (rp_move rfl rfl) ?_
  (first | (refine AL.rp rfl rfl (rp_len_map Tryd.underlying22 rfl rfl (by assumption)) ?_) | (refine AL.rp rfl rfl (rp_len_own Tryd.underlying22 rfl rfl) ?_) | (refine AL.rp rfl rfl (rp_len_sl Tryd.underlying22 rfl rfl) ?_) | (refine AL.rp rfl rfl (rp_len_nil Tryd.underlying22 rfl rfl) ?_) | (refine AL.rp rfl rfl (rp_len_str Tryd.underlying22 rfl rfl) ?_))
  (first | (refine AL.rp rfl rfl (rp_lssT rfl rfl rfl (by first | assumption | omega | (dsimp only; omega))) ?_) | (refine AL.rp rfl rfl (rp_lssF rfl rfl rfl (by first | assumption | omega | (dsimp only; omega))) ?_) | (refine AL.rp rfl rfl (rp_lss rfl rfl rfl) ?_))
  refine AL.nil ?_
  try simp only [thenS, S.put]
  refine AW.condF rfl ?_
  refine AW.exit ?_
  try simp only [thenS, inBlockS, ↓reduceIte, Nat.reduceEqDiff]
  refine AW.seq ?_
  refine AW.region ?_
  refine AL.rp rfl rfl (rp_assign rfl rfl) ?_
  refine AL.nil ?_
  try simp only [thenS, S.put]
  refine AW.ret ?_
  exact ⟨[_], ⟨rfl, trivial⟩, rfl, by simp [tupOf, V.pure, V.has]⟩
end Go.Proofs.YtlgnjehfojogmaaDoor
