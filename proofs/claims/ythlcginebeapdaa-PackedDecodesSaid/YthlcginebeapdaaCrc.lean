/- The remainder of bytes by a polynomial: bit by bit, and in a register. -/
import Derived.Test.YthlcginebeapdaaBase
namespace Go.Proofs.Ythlcginebeapdaa
set_option linter.unusedSimpArgs false
set_option linter.unusedVariables false
def crcStep (s : Nat) : Nat := if s.testBit 15 then (s * 2 % 65536) ^^^ 4129 else s * 2 % 65536
def crcIt : Nat → Nat → Nat
  | 0, s => s
  | t + 1, s => crcStep (crcIt t s)
def crcByte (s c : Nat) : Nat := crcIt 8 (s ^^^ (c * 256))
def crc (l : List Nat) : Nat := l.foldl crcByte 65535
def mbit (l : List Nat) (i : Nat) : Bool := (l.getD (i / 8) 0).testBit (7 - i % 8)
def polyB : List Bool := [true, false, false, false, true, false, false, false, false, false, false, true, false, false, false, false, true]
def crcP (k : Nat) : Bool := polyB.getD k false
/-- The bits while they are divided. -/
def divB (l : List Nat) : Nat → Nat → Bool
  | 0, j => mbit l j != decide (j < 16)
  | i + 1, j => divB l i j != (divB l i i && decide (i ≤ j ∧ j < i + 17) && crcP (j - i))
def remB (R : Nat → Bool) (n : Nat) : Nat → Nat
  | 0 => 0
  | t + 1 => 2 * remB R n t + (R (n + t)).toNat

theorem crcStep_bit (s j : Nat) (hj : j < 16) : (crcStep s).testBit j = ((decide (j ≠ 0) && s.testBit (j - 1)) != (s.testBit 15 && Nat.testBit 4129 j)) := by
  have h1 : (s * 2 % 65536).testBit j = (decide (j ≠ 0) && s.testBit (j - 1)) := by
    rw [show (65536 : Nat) = 2 ^ 16 from rfl, Nat.testBit_mod_two_pow, show s * 2 = s * 2 ^ 1 from rfl, Nat.testBit_mul_two_pow]
    cases j <;> simp <;> omega
  unfold crcStep
  split
  · rename_i h
    rw [Nat.testBit_xor, h1, h]
    simp
  · rename_i h
    rw [h1]
    simp only [Bool.not_eq_true] at h
    rw [h]; simp
theorem crcStep_lt (s : Nat) : crcStep s < 65536 := by
  unfold crcStep
  split
  · exact Nat.xor_lt_two_pow (n := 16) (Nat.mod_lt _ (by decide)) (by decide)
  · exact Nat.mod_lt _ (by decide)
theorem crcIt_lt (t s : Nat) (h : s < 65536) : crcIt t s < 65536 := by
  cases t with
  | zero => exact h
  | succ t => exact crcStep_lt _
theorem crcByte_lt (s c : Nat) : crcByte s c < 65536 := crcStep_lt _
theorem crcP_bit : ∀ k, k < 16 → crcP (k + 1) = Nat.testBit 4129 (15 - k) := by decide
theorem mbit_out {l : List Nat} {j : Nat} (h : 8 * l.length ≤ j) : mbit l j = false := by
  unfold mbit
  rw [List.getD_eq_getElem?_getD, List.getElem?_eq_none (by omega)]
  simp
/-- Within a byte. -/
def Inv (l : List Nat) (I t s : Nat) : Prop := ∀ k, divB l I (I + k) = if k < 16 then (s.testBit (15 - k) != (decide (8 ≤ t + k) && mbit l (I + k))) else mbit l (I + k)
theorem inv_step {l : List Nat} {I t s : Nat} (h : Inv l I t s) (ht : t < 8) : Inv l (I + 1) (t + 1) (crcStep s) := by
  intro k
  have h0 := h 0
  rw [if_pos (by decide), decide_eq_false (by omega), Nat.add_zero] at h0
  have hk := h (k + 1)
  rw [show I + 1 + k = I + (k + 1) by omega]
  simp only [divB]
  rw [h0, hk]
  by_cases h1 : k < 16
  · rw [if_pos h1, crcStep_bit _ _ (by omega), decide_eq_true (p := I ≤ I + (k + 1) ∧ I + (k + 1) < I + 17) (by omega), show I + (k + 1) - I = k + 1 by omega, crcP_bit k h1]
    by_cases h2 : k + 1 < 16
    · rw [if_pos h2, decide_eq_true (p := 15 - k ≠ 0) (by omega), show 15 - (k + 1) = 15 - k - 1 by omega, show t + 1 + k = t + (k + 1) by omega]
      cases s.testBit (15 - k - 1) <;> cases s.testBit 15 <;> cases (decide (8 ≤ t + (k + 1)) && mbit l (I + (k + 1))) <;> cases Nat.testBit 4129 (15 - k) <;> rfl
    · obtain rfl : k = 15 := by omega
      rw [if_neg (by omega), decide_eq_true (p := 8 ≤ t + 1 + 15) (by omega)]
      cases s.testBit 15 <;> cases mbit l (I + 16) <;> rfl
  · rw [if_neg h1, if_neg (by omega), decide_eq_false (p := I ≤ I + (k + 1) ∧ I + (k + 1) < I + 17) (by omega)]
    simp
theorem inv_it {l : List Nat} {I s : Nat} (h : Inv l I 0 s) : ∀ t, t ≤ 8 → Inv l (I + t) t (crcIt t s)
  | 0, _ => h
  | t + 1, ht => inv_step (inv_it h t (by omega)) (by omega)
/-- At the head of byte i. -/
def InvB (l : List Nat) (i s : Nat) : Prop := ∀ k, divB l (8 * i) (8 * i + k) = if k < 16 then (s.testBit (15 - k) != mbit l (8 * i + k)) else mbit l (8 * i + k)
theorem invB_zero (l : List Nat) : InvB l 0 65535 := by
  intro k
  simp only [Nat.mul_zero, Nat.zero_add, divB]
  by_cases h : k < 16
  · rw [if_pos h, decide_eq_true h]
    have : ∀ k, k < 16 → Nat.testBit 65535 (15 - k) = true := by decide
    rw [this k h]
    cases mbit l k <;> rfl
  · rw [if_neg h, decide_eq_false h]; simp
theorem invB_step {l : List Nat} {i s c : Nat} (h : InvB l i s) (hc : l[i]? = some c) (hc2 : c < 256) (hs : s < 65536) : InvB l (i + 1) (crcByte s c) := by
  have h0 : Inv l (8 * i) 0 (s ^^^ (c * 256)) := by
    intro k
    rw [h k]
    by_cases hk : k < 16
    · rw [if_pos hk, if_pos hk, Nat.testBit_xor, show c * 256 = c * 2 ^ 8 from rfl, Nat.testBit_mul_two_pow]
      by_cases h8 : 8 ≤ k
      · rw [decide_eq_true (p := 8 ≤ 0 + k) (by omega), decide_eq_false (p := 8 ≤ 15 - k) (by omega)]
        simp
      · have hm : mbit l (8 * i + k) = c.testBit (7 - k) := by
          unfold mbit
          rw [show (8 * i + k) / 8 = i by omega, show (8 * i + k) % 8 = k by omega, List.getD_eq_getElem?_getD, hc]; rfl
        rw [decide_eq_false (p := 8 ≤ 0 + k) (by omega), decide_eq_true (p := 8 ≤ 15 - k) (by omega), hm, show 15 - k - 8 = 7 - k by omega]
        simp
    · rw [if_neg hk, if_neg hk]
  have h1 := inv_it h0 8 (by omega)
  intro k
  rw [show 8 * (i + 1) = 8 * i + 8 by omega, h1 k]
  by_cases hk : k < 16
  · rw [if_pos hk, if_pos hk, decide_eq_true (by omega)]; rfl
  · rw [if_neg hk, if_neg hk]
theorem crc_take {l : List Nat} (hb : ∀ c ∈ l, c < 256) : ∀ i, i ≤ l.length → InvB l i ((l.take i).foldl crcByte 65535) ∧ (l.take i).foldl crcByte 65535 < 65536
  | 0, _ => ⟨invB_zero l, by simp⟩
  | i + 1, h => by
    obtain ⟨h1, h2⟩ := crc_take hb i (by omega)
    have hi : i < l.length := by omega
    rw [List.take_succ_eq_append_getElem hi, List.foldl_append]
    exact ⟨invB_step h1 (List.getElem?_eq_getElem hi) (hb _ (List.getElem_mem hi)) h2, crcByte_lt _ _⟩
theorem remB_eq {R : Nat → Bool} {n s : Nat} (hs : s < 65536) (h : ∀ k, k < 16 → R (n + k) = s.testBit (15 - k)) : ∀ t, t ≤ 16 → remB R n t = s >>> (16 - t)
  | 0, _ => by
    rw [remB, Nat.shiftRight_eq_div_pow, Nat.div_eq_of_lt]
    simpa using hs
  | t + 1, ht => by
    rw [remB, remB_eq hs h t (by omega), h t (by omega)]
    have e : 16 - t = (15 - t) + 1 := by omega
    rw [show 16 - (t + 1) = 15 - t by omega, e, Nat.shiftRight_succ]
    rw [Nat.testBit]
    rcases Nat.mod_two_eq_zero_or_one (s >>> (15 - t)) with h1 | h1
    · simp [h1, Nat.and_comm]; omega
    · simp [h1, Nat.and_comm]; omega
theorem crc_eq {l : List Nat} (hb : ∀ c ∈ l, c < 256) : remB (divB l (8 * l.length)) (8 * l.length) 16 = crc l := by
  obtain ⟨h1, h2⟩ := crc_take hb l.length (Nat.le_refl _)
  rw [List.take_length] at h1 h2
  rw [remB_eq h2 (fun k hk => ?_) 16 (Nat.le_refl _)]
  · rfl
  · rw [h1 k, if_pos hk, mbit_out (by omega)]; simp
end Go.Proofs.Ythlcginebeapdaa
