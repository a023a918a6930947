/- What the law package's own helpers do: a copy of a slice of integers; two slices of integers are held against each other. -/
import Derived.Test.YtnnmdcagbcdfpaaBase
namespace Go.Proofs.Ytnnmdcagbcdfpaa
open Go.RowKit
set_option linter.unusedSimpArgs false
set_option linter.unusedVariables false

theorem law_ints (v : Value) (xs : List Int) (w : World) (h : IntsAt w v xs) : Calls Try.prog 25 #[v] w fun e w' => ∃ v', e = .returned v' ∧ IntsAt w' v' xs ∧ Below w.heap.size w w' := by
  obtain ⟨a, len, cap, rfl, hl, H, Hl⟩ := IntsAt.opens h
  clear h
  go_enter Try.func25, Try.ntmps25
  go_wp2_with (at_builtin; refine wpList_append_clone rfl _ _ 36 rfl rfl 3 1 8 (.int .i64 0) Try.underlying36 (by kernel_rfl) rfl (by omega) (by omega) intCells intCells_len intCells_one _ xs rfl H.out ?_; intro v' w' hown hat hb hnil)
  go_ret
  exact ⟨_, rfl, hat, hb⟩

theorem law_sameInts (v u : Value) (xs ys : List Int) (w : World) (h : IntsAt w v xs) (g : IntsAt w u ys) : Calls Try.prog 28 #[v, u] w fun e w' => e = .returned (.bool (decide (xs = ys))) ∧ ∃ n, w' = w.drewN n := by
  obtain ⟨a, len, cap, rfl, hl, H, Hl⟩ := IntsAt.opens h
  obtain ⟨a', len', cap', rfl, hl', H', Hl'⟩ := IntsAt.opens g
  clear h g
  by_cases hne : len = len'
  · subst hne
    go_enter Try.func28, Try.ntmps28
    go_wp2_with fail
    go_loopw [5] (fun i wr => ∃ k n : Nat, k ≤ len ∧ i = .int .i64 k ∧ xs.take k = ys.take k ∧ wr = w.drewN n) (fun i _ => len - (intOf i).toNat)
    case atStart => exact ⟨0, 0, Nat.zero_le _, rfl, rfl, rfl⟩
    case round =>
      obtain ⟨k, n, hk, rfl, heq, rfl⟩ := hrel
      have Heq := Lib.hid heq
      clear heq
      by_cases hlt : k < len
      · obtain ⟨b, o, x, rfl, hx, hcell⟩ := IntsAt.at H.out hlt
        obtain ⟨b', o', y, rfl, hy, hcell'⟩ := IntsAt.at H'.out hlt
        have Hx := Lib.hid hx
        have Hy := Lib.hid hy
        clear hx hy
        go_wp2_with fail
        by_cases hxy : x = y
        · subst hxy
          go_quiet (fail)
          go_wp2_with fail
          go_roundw
          case rel => exact ⟨k + 1, _, by omega, by go_num, by rw [take_snoc Hx.out, take_snoc Hy.out, Heq.out], rfl⟩
          case measure => simp [intOf]; omega
        · go_quiet (fail)
          go_wp2_with fail
          go_ret
          refine ⟨ret1b ?_, _, World.drewN_drewN _ _ _⟩
          have hne : xs ≠ ys := by
            rintro rfl
            have := Hx.out.symm.trans Hy.out
            exact hxy (by simpa using this)
          simp [hne]
      · go_wp2_with fail
        go_ret
        refine ⟨ret1b ?_, n, rfl⟩
        have h1 := Heq.out
        rw [List.take_of_length_le (by rw [Hl.out]; omega), List.take_of_length_le (by rw [Hl'.out]; omega)] at h1
        simp [h1]
  · go_enter Try.func28, Try.ntmps28
    go_wp2_with fail
    go_ret
    refine ⟨ret1b ?_, 0, rfl⟩
    have hne' : xs ≠ ys := by
      rintro rfl
      exact hne (Hl.out.symm.trans Hl'.out)
    simp [hne']
theorem law_sameInts_yes (v u : Value) (xs : List Int) (w : World) (h : IntsAt w v xs) (g : IntsAt w u xs) : Calls Try.prog 28 #[v, u] w fun e w' => e = .returned (.bool true) ∧ ∃ n, w' = w.drewN n :=
  (law_sameInts v u xs xs w h g).mono fun _ _ ⟨h1, h3⟩ => ⟨by rw [h1]; simp, h3⟩
end Go.Proofs.Ytnnmdcagbcdfpaa
