/- Two lists of arcs, two machines are held against each other. -/
import Derived.Test.YtnnmdcagbcdfpaaMach
namespace Go.Proofs.Ytnnmdcagbcdfpaa
open Go.RowKit
set_option linter.unusedSimpArgs false
set_option linter.unusedVariables false

theorem arc_ext {x y : Ar} (h1 : x.i = y.i) (h2 : x.o = y.o) (h3 : x.w = y.w) (h4 : x.t = y.t) : x = y := by
  cases x; cases y
  simp only at h1 h2 h3 h4
  subst h1 h2 h3 h4
  rfl

theorem run_neq_arc (x y : Ar) (h : x ≠ y) (w : World) : (binOp .neq 59 (.agg #[.int .i64 x.i, .int .i64 x.o, .int .i64 x.w, .int .i64 x.t]) (.agg #[.int .i64 y.i, .int .i64 y.o, .int .i64 y.w, .int .i64 y.t])).run Try.prog w = .ok (.bool true) w := by
  by_cases h1 : x.i = y.i
  · by_cases h2 : x.o = y.o
    · by_cases h3 : x.w = y.w
      · by_cases h4 : x.t = y.t
        · exact absurd (arc_ext h1 h2 h3 h4) h
        · simp [go_sem, h1, h2, h3, h4]
      · simp [go_sem, h1, h2, h3]
    · simp [go_sem, h1, h2]
  · simp [go_sem, h1]

theorem ref_SameArcs (v u : Value) (xs ys : List Ar) (w : World) (h : ArcsAt w v xs) (g : ArcsAt w u ys) : Calls Try.prog 75 #[v, u] w fun e w' => ∃ q, e = .returned (.bool q) ∧ (q = true ↔ xs = ys) ∧ ∃ n, w' = w.drewN n := by
  obtain ⟨a, len, cap, rfl, hl, H, Hl⟩ := ArcsAt.opens h
  obtain ⟨a', len', cap', rfl, hl', H', Hl'⟩ := ArcsAt.opens g
  clear h g
  by_cases hne : len = len'
  · subst hne
    go_enter Try.func75, Try.ntmps75
    go_wp2_with fail
    go_loopw [5] (fun i wr => ∃ k n : Nat, k ≤ len ∧ i = .int .i64 k ∧ xs.take k = ys.take k ∧ wr = w.drewN n) (fun i _ => len - (intOf i).toNat)
    case atStart => exact ⟨0, 0, Nat.zero_le _, rfl, rfl, rfl⟩
    case round =>
      obtain ⟨k, n, hk, rfl, heq, rfl⟩ := hrel
      have Heq := Lib.hid heq
      clear heq
      by_cases hlt : k < len
      · obtain ⟨b, o, x, rfl, hx, c0, c1, c2, c3⟩ := ArcsAt.at H.out hlt
        obtain ⟨b', o', y, rfl, hy, d0, d1, d2, d3⟩ := ArcsAt.at H'.out hlt
        have Hx := Lib.hid hx
        have Hy := Lib.hid hy
        clear hx hy
        go_wp2_with fail
        by_cases hxy : x = y
        · subst hxy
          go_quiet (fail)
          go_wp2_with fail
          go_roundw
          case rel => exact ⟨k + 1, _, by omega, by go_num, by rw [take_snoc Hx.out, take_snoc Hy.out, Heq.out], rfl⟩
          case measure => simp [intOf]; omega
        · have hn := run_neq_arc x y hxy
          have hne : xs ≠ ys := by
            rintro rfl
            have := Hx.out.symm.trans Hy.out
            exact hxy (by simpa using this)
          go_quiet (fail)
          go_wp2_with fail
          go_ret
          exact ⟨_, rfl, by simp [hne], _, World.drewN_drewN _ _ _⟩
      · go_wp2_with fail
        go_ret
        have h1 := Heq.out
        rw [List.take_of_length_le (by rw [Hl.out]; omega), List.take_of_length_le (by rw [Hl'.out]; omega)] at h1
        exact ⟨_, rfl, by simp [h1], n, rfl⟩
  · go_enter Try.func75, Try.ntmps75
    go_wp2_with fail
    go_ret
    have hne' : xs ≠ ys := by
      rintro rfl
      exact hne (Hl.out.symm.trans Hl'.out)
    exact ⟨_, rfl, by simp [hne'], 0, rfl⟩

theorem ref_SameArcs_yes (v u : Value) (xs ys : List Ar) (w : World) (h : ArcsAt w v xs) (g : ArcsAt w u ys) (e : xs = ys) : Calls Try.prog 75 #[v, u] w fun e w' => e = .returned (.bool true) ∧ ∃ n, w' = w.drewN n :=
  (ref_SameArcs v u xs ys w h g).mono fun _ _ ⟨q, h1, h2, h3⟩ => ⟨by rw [h1, h2.2 e], h3⟩
theorem ref_SameArcs_no (v u : Value) (xs ys : List Ar) (w : World) (h : ArcsAt w v xs) (g : ArcsAt w u ys) (e : ¬ xs = ys) : Calls Try.prog 75 #[v, u] w fun e w' => e = .returned (.bool false) ∧ ∃ n, w' = w.drewN n :=
  (ref_SameArcs v u xs ys w h g).mono fun _ _ ⟨q, h1, h2, h3⟩ => ⟨by rw [h1, Bool.eq_false_iff.2 (fun hq => e (h2.1 hq))], h3⟩
theorem ArcsAt.drewN {w : World} {v : Value} {l : List Ar} (h : ArcsAt w v l) (n : Nat) : ArcsAt (w.drewN n) v l := h.mono (Below.drewN (Below.refl _ _) n)

theorem st_ext {x y : St} (h1 : x.fin = y.fin) (h2 : x.arcs = y.arcs) : x = y := by
  cases x; cases y
  simp only at h1 h2
  subst h1 h2
  rfl
theorem mach_ext {x y : Mach} (h1 : x.start = y.start) (h2 : x.states = y.states) : x = y := by
  cases x; cases y
  simp only at h1 h2
  subst h1 h2
  rfl

set_option maxHeartbeats 1000000 in
theorem ref_SameMachine (v u : Value) (m m' : Mach) (w : World) (h : MachAt w v m) (g : MachAt w u m') : Calls Try.prog 49 #[v, u] w fun e w' => ∃ q, e = .returned (.bool q) ∧ (q = true ↔ m = m') ∧ Below w.heap.size w w' := by
  obtain ⟨a, len, cap, rfl, hl, H, Hl⟩ := MachAt.opens h
  obtain ⟨a', len', cap', rfl, hl', H', Hl'⟩ := MachAt.opens g
  clear h g
  obtain ⟨st, sts⟩ := m
  obtain ⟨st', sts'⟩ := m'
  simp only at H Hl H' Hl'
  by_cases hst : st = st'
  · by_cases hne : len = len'
    · subst hne
      subst hst
      go_enter Try.func49, Try.ntmps49
      go_wp2_with fail
      go_loopw [5] (fun i wr => ∃ k n : Nat, k ≤ len ∧ i = .int .i64 k ∧ sts.take k = sts'.take k ∧ wr = ((w.alloc (.cells #[.int .i64 st, .slice a len cap] 24)).alloc (.cells #[.int .i64 st, .slice a' len cap'] 24)).drewN n) (fun i _ => len - (intOf i).toNat)
      case atStart => exact ⟨0, 0, Nat.zero_le _, rfl, rfl, rfl⟩
      case round =>
        obtain ⟨k, n, hk, rfl, heq, rfl⟩ := hrel
        have Heq := Lib.hid heq
        clear heq
        by_cases hlt : k < len
        · obtain ⟨b, o, x, av, rfl, hx, c0, c1, cA⟩ := StatesAt.at H.out hlt
          obtain ⟨b', o', y, av', rfl, hy, d0, d1, dA⟩ := StatesAt.at H'.out hlt
          have Hx := Lib.hid hx
          have Hy := Lib.hid hy
          have hb1 := blt c0
          have hb2 := blt d0
          have CA := Lib.hid cA
          have DA := Lib.hid dA
          clear hx hy cA dA
          go_wp2_with fail
          have CA' : Hid (∀ n, ArcsAt (((w.alloc (.cells #[.int .i64 st, .slice (some ⟨b, o, none⟩) len cap] 24)).alloc (.cells #[.int .i64 st, .slice (some ⟨b', o', none⟩) len cap'] 24)).drewN n) av x.arcs) := fun n => CA.out.mono (by repeat' (first | (with_reducible exact Below.refl _ _) | (with_reducible assumption) | (with_reducible refine Below.dr ?_ _) | (with_reducible refine Below.d1 ?_) | (with_reducible refine Below.al ?_ _) | (with_reducible refine Below.tr ?_ (by assumption)) | (with_reducible refine Below.drewN ?_ _) | (with_reducible refine Below.drew ?_) | (with_reducible refine Below.alloc ?_ ?_ _) | (with_reducible refine Below.setCell ?_ ?_ _) | (with_reducible refine Below.trans ?_ (Below.mono (by assumption) ?_)) | omega | (simp; done) | (simp; omega) | (simp [*]; done)))
          have DA' : Hid (∀ n, ArcsAt (((w.alloc (.cells #[.int .i64 st, .slice (some ⟨b, o, none⟩) len cap] 24)).alloc (.cells #[.int .i64 st, .slice (some ⟨b', o', none⟩) len cap'] 24)).drewN n) av' y.arcs) := fun n => DA.out.mono (by repeat' (first | (with_reducible exact Below.refl _ _) | (with_reducible assumption) | (with_reducible refine Below.dr ?_ _) | (with_reducible refine Below.d1 ?_) | (with_reducible refine Below.al ?_ _) | (with_reducible refine Below.tr ?_ (by assumption)) | (with_reducible refine Below.drewN ?_ _) | (with_reducible refine Below.drew ?_) | (with_reducible refine Below.alloc ?_ ?_ _) | (with_reducible refine Below.setCell ?_ ?_ _) | (with_reducible refine Below.trans ?_ (Below.mono (by assumption) ?_)) | omega | (simp; done) | (simp; omega) | (simp [*]; done)))
          by_cases hxy : x.fin = y.fin
          · by_cases hxa : x.arcs = y.arcs
            · go_quiet ((go_at_call 75; exact quiet_plus (ref_SameArcs_yes _ _ _ _ _ (CA'.out _) (DA'.out _) hxa)))
              go_wp2_with fail
              go_roundw
              case rel => exact ⟨k + 1, _, by omega, by go_num, by rw [take_snoc Hx.out, take_snoc Hy.out, Heq.out, st_ext hxy hxa], rfl⟩
              case measure => simp [intOf]; omega
            · go_quiet ((go_at_call 75; exact quiet_plus (ref_SameArcs_no _ _ _ _ _ (CA'.out _) (DA'.out _) hxa)))
              go_wp2_with fail
              go_ret
              refine ⟨_, rfl, ?_, (by repeat' (first | (with_reducible exact Below.refl _ _) | (with_reducible assumption) | (with_reducible refine Below.dr ?_ _) | (with_reducible refine Below.d1 ?_) | (with_reducible refine Below.al ?_ _) | (with_reducible refine Below.tr ?_ (by assumption)) | (with_reducible refine Below.drewN ?_ _) | (with_reducible refine Below.drew ?_) | (with_reducible refine Below.alloc ?_ ?_ _) | (with_reducible refine Below.setCell ?_ ?_ _) | (with_reducible refine Below.trans ?_ (Below.mono (by assumption) ?_)) | omega | (simp; done) | (simp; omega) | (simp [*]; done)))⟩
              simp only [Bool.false_eq_true, false_iff]
              intro hm
              simp only [Mach.mk.injEq, true_and] at hm
              subst hm
              have := Hx.out.symm.trans Hy.out
              simp only [Option.some.injEq] at this
              exact hxa (by rw [this])
          · go_quiet (fail)
            go_wp2_with fail
            go_ret
            refine ⟨_, rfl, ?_, (by repeat' (first | (with_reducible exact Below.refl _ _) | (with_reducible assumption) | (with_reducible refine Below.dr ?_ _) | (with_reducible refine Below.d1 ?_) | (with_reducible refine Below.al ?_ _) | (with_reducible refine Below.tr ?_ (by assumption)) | (with_reducible refine Below.drewN ?_ _) | (with_reducible refine Below.drew ?_) | (with_reducible refine Below.alloc ?_ ?_ _) | (with_reducible refine Below.setCell ?_ ?_ _) | (with_reducible refine Below.trans ?_ (Below.mono (by assumption) ?_)) | omega | (simp; done) | (simp; omega) | (simp [*]; done)))⟩
            simp only [Bool.false_eq_true, false_iff]
            intro hm
            simp only [Mach.mk.injEq, true_and] at hm
            subst hm
            have := Hx.out.symm.trans Hy.out
            simp only [Option.some.injEq] at this
            exact hxy (by rw [this])
        · go_wp2_with fail
          go_ret
          have h1 := Heq.out
          rw [List.take_of_length_le (by rw [Hl.out]; omega), List.take_of_length_le (by rw [Hl'.out]; omega)] at h1
          exact ⟨_, rfl, by simp [h1], (by repeat' (first | (with_reducible exact Below.refl _ _) | (with_reducible assumption) | (with_reducible refine Below.dr ?_ _) | (with_reducible refine Below.d1 ?_) | (with_reducible refine Below.al ?_ _) | (with_reducible refine Below.tr ?_ (by assumption)) | (with_reducible refine Below.drewN ?_ _) | (with_reducible refine Below.drew ?_) | (with_reducible refine Below.alloc ?_ ?_ _) | (with_reducible refine Below.setCell ?_ ?_ _) | (with_reducible refine Below.trans ?_ (Below.mono (by assumption) ?_)) | omega | (simp; done) | (simp; omega) | (simp [*]; done)))⟩
    · subst hst
      go_enter Try.func49, Try.ntmps49
      go_wp2_with fail
      go_ret
      refine ⟨_, rfl, ?_, (by repeat' (first | (with_reducible exact Below.refl _ _) | (with_reducible assumption) | (with_reducible refine Below.dr ?_ _) | (with_reducible refine Below.d1 ?_) | (with_reducible refine Below.al ?_ _) | (with_reducible refine Below.tr ?_ (by assumption)) | (with_reducible refine Below.drewN ?_ _) | (with_reducible refine Below.drew ?_) | (with_reducible refine Below.alloc ?_ ?_ _) | (with_reducible refine Below.setCell ?_ ?_ _) | (with_reducible refine Below.trans ?_ (Below.mono (by assumption) ?_)) | omega | (simp; done) | (simp; omega) | (simp [*]; done)))⟩
      simp only [Bool.false_eq_true, false_iff]
      intro hm
      simp only [Mach.mk.injEq, true_and] at hm
      subst hm
      exact hne (Hl.out.symm.trans Hl'.out)
  · go_enter Try.func49, Try.ntmps49
    go_wp2_with fail
    go_ret
    refine ⟨_, rfl, ?_, (by repeat' (first | (with_reducible exact Below.refl _ _) | (with_reducible assumption) | (with_reducible refine Below.dr ?_ _) | (with_reducible refine Below.d1 ?_) | (with_reducible refine Below.al ?_ _) | (with_reducible refine Below.tr ?_ (by assumption)) | (with_reducible refine Below.drewN ?_ _) | (with_reducible refine Below.drew ?_) | (with_reducible refine Below.alloc ?_ ?_ _) | (with_reducible refine Below.setCell ?_ ?_ _) | (with_reducible refine Below.trans ?_ (Below.mono (by assumption) ?_)) | omega | (simp; done) | (simp; omega) | (simp [*]; done)))⟩
    simp only [Bool.false_eq_true, false_iff]
    intro hm
    simp only [Mach.mk.injEq] at hm
    exact hst hm.1
end Go.Proofs.Ytnnmdcagbcdfpaa
