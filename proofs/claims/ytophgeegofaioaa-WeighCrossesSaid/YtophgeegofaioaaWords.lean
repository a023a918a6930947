import Derived.Test.YtophgeegofaioaaCommon
import Derived.Test.YtophgeegofaioaaWeights
namespace Go.Proofs.Ytophgeegofaioaa
open Go.RowKit
set_option linter.unusedVariables false
set_option linter.unusedSimpArgs false
/-- What is wrong with a word: 1 it is too long, 2 a label is out of range, 0 nothing. -/
def wordE (xs : List Int) : Int := if 12 < xs.length then 1 else if xs.all (fun x => decide (1 ≤ x ∧ x ≤ 1000)) then 0 else 2
theorem wordE_long {xs : List Int} (h : 12 < xs.length) : wordE xs = 1 := by simp [wordE, h]
theorem wordE_good {xs : List Int} {len k : Nat} (hl : xs.length = len) (h : ¬ 12 < len) (hk : ¬ k < len) (hp : (xs.take k).all (fun x => decide (1 ≤ x ∧ x ≤ 1000)) = true) : wordE xs = 0 := by
  rw [List.take_of_length_le (by omega)] at hp
  simp only [wordE, hl, if_neg h, hp, if_true]
theorem wordE_bad {xs : List Int} {len k : Nat} {x : Int} (hl : xs.length = len) (h : ¬ 12 < len) (hx : xs[k]? = some x) (hp : ¬ (1 ≤ x ∧ x ≤ 1000)) : wordE xs = 2 := by
  have : ¬ xs.all (fun x => decide (1 ≤ x ∧ x ≤ 1000)) = true := fun e => hp (by simpa using List.all_eq_true.mp e x (List.mem_of_getElem? hx))
  simp only [wordE, hl, if_neg h, if_neg this]
theorem all_snoc {xs : List Int} {k : Nat} {x : Int} {p : Int → Bool} (hx : xs[k]? = some x) (h : (xs.take k).all p = true) (hp : p x = true) : (xs.take (k + 1)).all p = true := by
  rw [take_snoc hx, List.all_append, h]; simp [hp]

theorem weigh_word (v : Value) (xs : List Int) (w : World) (h : IntsAt w v xs) : Calls Try.prog 46 #[v] w fun e w' => e = .returned (.int .i64 (wordE xs)) ∧ ∃ n, w' = w.drewN n := by
  obtain ⟨a, len, cap, rfl, hl, H, Hl⟩ := IntsAt.opens h
  clear h
  by_cases hb : 12 < len
  · go_enter Try.func46, Try.ntmps46
    go_wp2_with fail
    go_ret
    exact ⟨ret1i (wordE_long (by rw [Hl.out]; exact hb)).symm, 0, rfl⟩
  · go_enter Try.func46, Try.ntmps46
    go_wp2_with fail
    go_loopw [10] (fun i wr => ∃ k n : Nat, k ≤ len ∧ i = .int .i64 k ∧ (xs.take k).all (fun x => decide (1 ≤ x ∧ x ≤ 1000)) = true ∧ wr = w.drewN n) (fun i _ => len - (intOf i).toNat)
    case atStart => exact ⟨0, 0, Nat.zero_le _, rfl, rfl, rfl⟩
    case round =>
      obtain ⟨k, n, hk, rfl, heq, rfl⟩ := hrel
      have Heq := Lib.hid heq
      clear heq
      by_cases hlt : k < len
      · obtain ⟨b, o, x, rfl, hx, hcell⟩ := IntsAt.at H.out hlt
        have Hx := Lib.hid hx
        clear hx
        by_cases h1 : x < 1
        · go_wp2_with fail
          go_ret
          exact ⟨ret1i (wordE_bad Hl.out hb Hx.out (by omega)).symm, n, rfl⟩
        · by_cases h2 : 1000 < x
          · go_wp2_with fail
            go_ret
            exact ⟨ret1i (wordE_bad Hl.out hb Hx.out (by omega)).symm, n, rfl⟩
          · go_wp2_with fail
            go_roundw
            case rel => exact ⟨k + 1, _, by omega, by go_num, all_snoc Hx.out Heq.out (by simp; omega), rfl⟩
            case measure => simp [intOf]; omega
      · go_wp2_with fail
        go_ret
        exact ⟨ret1i (wordE_good Hl.out hb hlt Heq.out).symm, n, rfl⟩
theorem ref_WordFault (v : Value) (xs : List Int) (w : World) (h : IntsAt w v xs) : Calls Try.prog 47 #[v] w fun e w' => e = .returned (.int .i64 (wordE xs)) ∧ ∃ n, w' = w.drewN n := by
  obtain ⟨a, len, cap, rfl, hl, H, Hl⟩ := IntsAt.opens h
  clear h
  by_cases hb : 12 < len
  · go_enter Try.func47, Try.ntmps47
    go_wp2_with fail
    go_ret
    exact ⟨ret1i (wordE_long (by rw [Hl.out]; exact hb)).symm, 0, rfl⟩
  · go_enter Try.func47, Try.ntmps47
    go_wp2_with fail
    go_loopw [3] (fun i wr => ∃ k n : Nat, k ≤ len ∧ i = .int .i64 k ∧ (xs.take k).all (fun x => decide (1 ≤ x ∧ x ≤ 1000)) = true ∧ wr = w.drewN n) (fun i _ => len - (intOf i).toNat)
    case atStart => exact ⟨0, 0, Nat.zero_le _, rfl, rfl, rfl⟩
    case round =>
      obtain ⟨k, n, hk, rfl, heq, rfl⟩ := hrel
      have Heq := Lib.hid heq
      clear heq
      by_cases hlt : k < len
      · obtain ⟨b, o, x, rfl, hx, hcell⟩ := IntsAt.at H.out hlt
        have Hx := Lib.hid hx
        clear hx
        by_cases h1 : 1 ≤ x ∧ x ≤ 1000
        · go_wp2_with (go_at_call 54; refine (ref_In _ _ _ _).mono ?_; rintro e w1 ⟨rfl, rfl⟩)
          go_roundw
          case rel => exact ⟨k + 1, _, by omega, by go_num, all_snoc Hx.out Heq.out (by simp; omega), rfl⟩
          case measure => simp [intOf]; omega
        · go_wp2_with (go_at_call 54; refine (ref_In _ _ _ _).mono ?_; rintro e w1 ⟨rfl, rfl⟩)
          go_ret
          exact ⟨ret1i (wordE_bad Hl.out hb Hx.out (by omega)).symm, n, rfl⟩
      · go_wp2_with fail
        go_ret
        exact ⟨ret1i (wordE_good Hl.out hb hlt Heq.out).symm, n, rfl⟩
/-- A slice that reads as a word with this fault. -/
def WordAt (w : World) (v : Value) (c : Int) : Prop := ∃ xs, IntsAt w v xs ∧ wordE xs = c
theorem weigh_word' (v : Value) (xs : List Int) (w : World) (c : Int) (hc : wordE xs = c) (h : IntsAt w v xs) : Calls Try.prog 46 #[v] w fun e w' => e = .returned (.int .i64 c) ∧ ∃ n, w' = w.drewN n := by
  subst hc; exact weigh_word v xs w h
theorem ref_WordFault' (v : Value) (xs : List Int) (w : World) (c : Int) (hc : wordE xs = c) (h : IntsAt w v xs) : Calls Try.prog 47 #[v] w fun e w' => e = .returned (.int .i64 c) ∧ ∃ n, w' = w.drewN n := by
  subst hc; exact ref_WordFault v xs w h
theorem weigh_wordF (v : Value) (w : World) (c : Int) (h : WordAt w v c) : Calls Try.prog 46 #[v] w fun e w' => e = .returned (.int .i64 c) ∧ ∃ n, w' = w.drewN n := by
  obtain ⟨xs, h, hc⟩ := h; exact weigh_word' v xs w c hc h
theorem ref_WordFaultF (v : Value) (w : World) (c : Int) (h : WordAt w v c) : Calls Try.prog 47 #[v] w fun e w' => e = .returned (.int .i64 c) ∧ ∃ n, w' = w.drewN n := by
  obtain ⟨xs, h, hc⟩ := h; exact ref_WordFault' v xs w c hc h
end Go.Proofs.Ytophgeegofaioaa
