/- ref.Fault: what is wrong with a machine. -/
import Derived.Test.YtnnmdcagbcdfpaaArcOk
namespace Go.Proofs.Ytnnmdcagbcdfpaa
open Go.RowKit
set_option linter.unusedSimpArgs false
set_option linter.unusedVariables false

theorem ref_ArcCount (v : Value) (m : Mach) (w : World) (h : MachAt w v m) (h60 : m.states.length ≤ 60) : Calls Try.prog 46 #[v] w fun e w' => e = .returned (.int .i64 (arcN m.states)) ∧ Below w.heap.size w w' := by
  obtain ⟨a, len, cap, rfl, hl, H, Hl⟩ := MachAt.opens h
  clear h
  obtain ⟨st, sts⟩ := m
  simp only at H Hl h60 ⊢
  have hlen : len ≤ 60 := by have := Hl.out; omega
  clear h60
  go_enter Try.func46, Try.ntmps46
  go_wp2_with fail
  go_loop [3, 4] (fun t i => ∃ k s : Nat, k ≤ len ∧ i = .int .i64 k ∧ t = .int .i64 s ∧ s ≤ k * 4398046511104 ∧ s = arcN (sts.take k)) (fun _ i => len - (intOf i).toNat)
  case atStart => exact ⟨0, 0, Nat.zero_le _, rfl, rfl, by omega, rfl⟩
  case round =>
    obtain ⟨k, s, hk, rfl, rfl, hs, hs'⟩ := hrel
    have Hs := Lib.hid hs'
    clear hs'
    by_cases hlt : k < len
    · obtain ⟨b, o, x, av, rfl, hx, c0, c1, cA⟩ := StatesAt.at H.out hlt
      obtain ⟨a', len', cap', rfl, hl', -, Hl'⟩ := ArcsAt.opens cA
      have hb0 := blt c0
      have Hx := Lib.hid hx
      clear hx cA
      go_wp2_with fail
      go_round
      case rel => exact ⟨k + 1, s + len', by omega, by go_num, by go_num, by omega, by rw [take_snoc Hx.out, arcN_snoc, Hl'.out, Hs.out]⟩
      case measure => simp [intOf]; omega
    · have h400' := arcN_full Hl.out hlt
      rw [← Hs.out] at h400'
      have H400 := Lib.hid h400'
      clear h400'
      go_wp2_with fail
      go_ret
      exact ⟨ret1i (by rw [H400.out]), (by repeat' (first | (with_reducible exact Below.refl _ _) | (with_reducible assumption) | (with_reducible refine Below.dr ?_ _) | (with_reducible refine Below.d1 ?_) | (with_reducible refine Below.al ?_ _) | (with_reducible refine Below.tr ?_ (by assumption)) | (with_reducible refine Below.drewN ?_ _) | (with_reducible refine Below.drew ?_) | (with_reducible refine Below.alloc ?_ ?_ _) | (with_reducible refine Below.setCell ?_ ?_ _) | (with_reducible refine Below.trans ?_ (Below.mono (by assumption) ?_)) | omega | (simp; done) | (simp; omega) | (simp [*]; done)))⟩

set_option maxHeartbeats 2000000 in
theorem ref_Fault (v : Value) (m : Mach) (w : World) (h : MachAt w v m) : Calls Try.prog 45 #[v] w fun e w' => e = .returned (.int .i64 (machE m)) ∧ Below w.heap.size w w' := by
  have HM := Lib.hid h
  obtain ⟨a, len, cap, rfl, hl, H, Hl⟩ := MachAt.opens h
  clear h
  obtain ⟨st, sts⟩ := m
  simp only at H Hl ⊢
  by_cases h60 : 60 < len
  · go_enter Try.func45, Try.ntmps45
    go_wp2_with fail
    go_ret
    exact ⟨ret1i (machE_size (.inl (by rw [Hl.out]; exact h60))).symm, (by repeat' (first | (with_reducible exact Below.refl _ _) | (with_reducible assumption) | (with_reducible refine Below.dr ?_ _) | (with_reducible refine Below.d1 ?_) | (with_reducible refine Below.al ?_ _) | (with_reducible refine Below.tr ?_ (by assumption)) | (with_reducible refine Below.drewN ?_ _) | (with_reducible refine Below.drew ?_) | (with_reducible refine Below.alloc ?_ ?_ _) | (with_reducible refine Below.setCell ?_ ?_ _) | (with_reducible refine Below.trans ?_ (Below.mono (by assumption) ?_)) | omega | (simp; done) | (simp; omega) | (simp [*]; done)))⟩
  · obtain ⟨s, hs⟩ : ∃ s, arcN sts = s := ⟨_, rfl⟩
    have Hs := Lib.hid hs
    clear hs
    have HL60 : Hid (sts.length ≤ 60) := by rw [Hid, Hl.out]; omega
    go_enter Try.func45, Try.ntmps45
    go_wp2_with fail
    refine (ref_ArcCount _ ⟨st, sts⟩ _ (HM.out.mono (by repeat' (first | (with_reducible exact Below.refl _ _) | (with_reducible assumption) | (with_reducible refine Below.dr ?_ _) | (with_reducible refine Below.d1 ?_) | (with_reducible refine Below.al ?_ _) | (with_reducible refine Below.tr ?_ (by assumption)) | (with_reducible refine Below.drewN ?_ _) | (with_reducible refine Below.drew ?_) | (with_reducible refine Below.alloc ?_ ?_ _) | (with_reducible refine Below.setCell ?_ ?_ _) | (with_reducible refine Below.trans ?_ (Below.mono (by assumption) ?_)) | omega | (simp; done) | (simp; omega) | (simp [*]; done)))) HL60.out).mono ?_
    rintro e w1 ⟨rfl, hb⟩
    simp only [Hs.out]
    obtain ⟨hc, hf, hz, hz1, hz2⟩ := bkeep hb; have hsz := hb.size; try simp at hsz
    by_cases hs4 : 400 < s
    · go_wp2_with fail
      go_ret
      exact ⟨ret1i (machE_size (.inr (by rw [Hs.out]; exact hs4))).symm, (by repeat' (first | (with_reducible exact Below.refl _ _) | (with_reducible assumption) | (with_reducible refine Below.dr ?_ _) | (with_reducible refine Below.d1 ?_) | (with_reducible refine Below.al ?_ _) | (with_reducible refine Below.tr ?_ (by assumption)) | (with_reducible refine Below.drewN ?_ _) | (with_reducible refine Below.drew ?_) | (with_reducible refine Below.alloc ?_ ?_ _) | (with_reducible refine Below.setCell ?_ ?_ _) | (with_reducible refine Below.trans ?_ (Below.mono (by assumption) ?_)) | omega | (simp; done) | (simp; omega) | (simp [*]; done)))⟩
    · have N400 : Hid (¬ 400 < arcN sts) := by rw [Hs.out]; exact hs4
      by_cases hst : -1 ≤ st ∧ st ≤ (len : Int) - 1
      · go_wp2_with (first | (go_at_call 55; refine (ref_In _ _ _ _).mono ?_; rintro e w1 ⟨rfl, rfl⟩))
        have hw1 : Below w.heap.size w w1 := (by repeat' (first | (with_reducible exact Below.refl _ _) | (with_reducible assumption) | (with_reducible refine Below.dr ?_ _) | (with_reducible refine Below.d1 ?_) | (with_reducible refine Below.al ?_ _) | (with_reducible refine Below.tr ?_ (by assumption)) | (with_reducible refine Below.drewN ?_ _) | (with_reducible refine Below.drew ?_) | (with_reducible refine Below.alloc ?_ ?_ _) | (with_reducible refine Below.setCell ?_ ?_ _) | (with_reducible refine Below.trans ?_ (Below.mono (by assumption) ?_)) | omega | (simp; done) | (simp; omega) | (simp [*]; done)))
        have HW := Lib.hid hw1
        clear hw1
        have g0 : w1.cell? ⟨w.heap.size, 0, none⟩ = some (.int .i64 st) := (hc _ _ (by simp)).trans (by simp [go_sem])
        have g1 : w1.cell? ⟨w.heap.size, 1, none⟩ = some (.slice a len cap) := (hc _ _ (by simp)).trans (by simp [go_sem])
        have hz0 := blt g0
        clear hc hf hz hz1 hz2 hb
        go_loopw [4] (fun i wr => ∃ k : Nat, k ≤ len ∧ i = .int .i64 k ∧ (sts.take k).all (stOk len) = true ∧ Below w1.heap.size w1 wr) (fun i _ => len - (intOf i).toNat)
        case atStart => exact ⟨0, Nat.zero_le _, rfl, rfl, Below.refl _ _⟩
        case round =>
          obtain ⟨k, hk, rfl, hall, hbel⟩ := hrel
          have Hall := Lib.hid hall
          clear hall
          have hW : Below w.heap.size w wr := HW.out.trans (hbel.mono HW.out.size)
          have q0 := (hbel.cell (p := ⟨w.heap.size, 0, none⟩) hz0).trans g0
          have q1 := (hbel.cell (p := ⟨w.heap.size, 1, none⟩) hz0).trans g1
          have hy0 := blt q0
          by_cases hlt : k < len
          · obtain ⟨b, o, x, av, rfl, hx, c0, c1, cA⟩ := StatesAt.at (StatesAt.mono H.out hW) hlt
            have hb0 := blt c0
            have Hx := Lib.hid hx
            obtain ⟨a', len', cap', rfl, hl', HA, Hl'⟩ := ArcsAt.opens cA
            clear hx cA
            by_cases hf : 0 ≤ x.fin ∧ x.fin ≤ 1000000001
            · obtain ⟨wo, rfl⟩ : ∃ wo : World, wo = wr := ⟨_, rfl⟩
              go_wp2_with (first | (go_at_call 74; refine (ref_IsWeight _ _).mono ?_; rintro e w1 ⟨rfl, rfl⟩))
              go_loopw [6] (fun i wr => ∃ j : Nat, j ≤ len' ∧ i = .int .i64 j ∧ (x.arcs.take j).all (arOk len) = true ∧ Below wo.heap.size wo wr) (fun i _ => len' - (intOf i).toNat)
              case atStart => exact ⟨0, Nat.zero_le _, rfl, rfl, Below.refl _ _⟩
              case round =>
                obtain ⟨j, hj, rfl, hall, hbel2⟩ := hrel
                have Hall2 := Lib.hid hall
                clear hall
                have r0 := (hbel2.cell (p := ⟨w.heap.size, 0, none⟩) hy0).trans q0
                have r1 := (hbel2.cell (p := ⟨w.heap.size, 1, none⟩) hy0).trans q1
                by_cases hlj : j < len'
                · obtain ⟨b', o', y, rfl, hy, d0, d1, d2, d3⟩ := ArcsAt.at (ArcsAt.mono HA.out hbel2) hlj
                  have Hy := Lib.hid hy
                  clear hy
                  obtain ⟨yi, yo, yw, yt⟩ := y
                  simp only at d0 d1 d2 d3
                  by_cases h1 : 0 ≤ yi ∧ yi ≤ 1000
                  · by_cases h2 : 0 ≤ yo ∧ yo ≤ 1000
                    · by_cases h3 : 0 ≤ yw ∧ yw ≤ 1000000000
                      · by_cases h4 : 0 ≤ yt ∧ yt ≤ (len : Int) - 1
                        · go_wp2_with (first | (go_at_call 55; refine (ref_In _ _ _ _).mono ?_; rintro e w1 ⟨rfl, rfl⟩))
                          go_roundw
                          case rel => exact ⟨j + 1, by omega, by go_num, all_snoc' Hy.out Hall2.out (arOk_yes (by simp only; omega)), (by repeat' (first | (with_reducible exact Below.refl _ _) | (with_reducible assumption) | (with_reducible refine Below.dr ?_ _) | (with_reducible refine Below.d1 ?_) | (with_reducible refine Below.al ?_ _) | (with_reducible refine Below.tr ?_ (by assumption)) | (with_reducible refine Below.drewN ?_ _) | (with_reducible refine Below.drew ?_) | (with_reducible refine Below.alloc ?_ ?_ _) | (with_reducible refine Below.setCell ?_ ?_ _) | (with_reducible refine Below.trans ?_ (Below.mono (by assumption) ?_)) | omega | (simp; done) | (simp; omega) | (simp [*]; done)))⟩
                          case measure => simp [intOf]; omega
                        · have hE : Hid (machE ⟨st, sts⟩ = 2) := machE_state Hl.out h60 N400.out Hx.out (stOk_arc Hy.out (arOk_no (by simp only; omega)))
                          go_wp2_with (first | (go_at_call 55; refine (ref_In _ _ _ _).mono ?_; rintro e w1 ⟨rfl, rfl⟩))
                          go_ret
                          exact ⟨ret1i hE.out.symm, (by repeat' (first | (with_reducible exact Below.refl _ _) | (with_reducible assumption) | (with_reducible refine Below.dr ?_ _) | (with_reducible refine Below.d1 ?_) | (with_reducible refine Below.al ?_ _) | (with_reducible refine Below.tr ?_ (by assumption)) | (with_reducible refine Below.drewN ?_ _) | (with_reducible refine Below.drew ?_) | (with_reducible refine Below.alloc ?_ ?_ _) | (with_reducible refine Below.setCell ?_ ?_ _) | (with_reducible refine Below.trans ?_ (Below.mono (by assumption) ?_)) | omega | (simp; done) | (simp; omega) | (simp [*]; done)))⟩
                      · have hE : Hid (machE ⟨st, sts⟩ = 2) := machE_state Hl.out h60 N400.out Hx.out (stOk_arc Hy.out (arOk_no (by simp only; omega)))
                        go_wp2_with (first | (go_at_call 55; refine (ref_In _ _ _ _).mono ?_; rintro e w1 ⟨rfl, rfl⟩))
                        go_ret
                        exact ⟨ret1i hE.out.symm, (by repeat' (first | (with_reducible exact Below.refl _ _) | (with_reducible assumption) | (with_reducible refine Below.dr ?_ _) | (with_reducible refine Below.d1 ?_) | (with_reducible refine Below.al ?_ _) | (with_reducible refine Below.tr ?_ (by assumption)) | (with_reducible refine Below.drewN ?_ _) | (with_reducible refine Below.drew ?_) | (with_reducible refine Below.alloc ?_ ?_ _) | (with_reducible refine Below.setCell ?_ ?_ _) | (with_reducible refine Below.trans ?_ (Below.mono (by assumption) ?_)) | omega | (simp; done) | (simp; omega) | (simp [*]; done)))⟩
                    · have hE : Hid (machE ⟨st, sts⟩ = 2) := machE_state Hl.out h60 N400.out Hx.out (stOk_arc Hy.out (arOk_no (by simp only; omega)))
                      go_wp2_with (first | (go_at_call 55; refine (ref_In _ _ _ _).mono ?_; rintro e w1 ⟨rfl, rfl⟩))
                      go_ret
                      exact ⟨ret1i hE.out.symm, (by repeat' (first | (with_reducible exact Below.refl _ _) | (with_reducible assumption) | (with_reducible refine Below.dr ?_ _) | (with_reducible refine Below.d1 ?_) | (with_reducible refine Below.al ?_ _) | (with_reducible refine Below.tr ?_ (by assumption)) | (with_reducible refine Below.drewN ?_ _) | (with_reducible refine Below.drew ?_) | (with_reducible refine Below.alloc ?_ ?_ _) | (with_reducible refine Below.setCell ?_ ?_ _) | (with_reducible refine Below.trans ?_ (Below.mono (by assumption) ?_)) | omega | (simp; done) | (simp; omega) | (simp [*]; done)))⟩
                  · have hE : Hid (machE ⟨st, sts⟩ = 2) := machE_state Hl.out h60 N400.out Hx.out (stOk_arc Hy.out (arOk_no (by simp only; omega)))
                    go_wp2_with (first | (go_at_call 55; refine (ref_In _ _ _ _).mono ?_; rintro e w1 ⟨rfl, rfl⟩))
                    go_ret
                    exact ⟨ret1i hE.out.symm, (by repeat' (first | (with_reducible exact Below.refl _ _) | (with_reducible assumption) | (with_reducible refine Below.dr ?_ _) | (with_reducible refine Below.d1 ?_) | (with_reducible refine Below.al ?_ _) | (with_reducible refine Below.tr ?_ (by assumption)) | (with_reducible refine Below.drewN ?_ _) | (with_reducible refine Below.drew ?_) | (with_reducible refine Below.alloc ?_ ?_ _) | (with_reducible refine Below.setCell ?_ ?_ _) | (with_reducible refine Below.trans ?_ (Below.mono (by assumption) ?_)) | omega | (simp; done) | (simp; omega) | (simp [*]; done)))⟩
                · have hA : x.arcs.all (arOk len) = true := by
                    have := Hall2.out
                    rwa [List.take_of_length_le (by rw [Hl'.out]; omega)] at this
                  have HA2 := Lib.hid hA
                  clear hA
                  go_wp2_with fail
                  go_roundw
                  case rel => exact ⟨k + 1, by omega, by go_num, all_snoc' Hx.out Hall.out (stOk_yes (by simp [finOk]; omega) HA2.out), (by repeat' (first | (with_reducible exact Below.refl _ _) | (with_reducible assumption) | (with_reducible refine Below.dr ?_ _) | (with_reducible refine Below.d1 ?_) | (with_reducible refine Below.al ?_ _) | (with_reducible refine Below.tr ?_ (by assumption)) | (with_reducible refine Below.drewN ?_ _) | (with_reducible refine Below.drew ?_) | (with_reducible refine Below.alloc ?_ ?_ _) | (with_reducible refine Below.setCell ?_ ?_ _) | (with_reducible refine Below.trans ?_ (Below.mono (by assumption) ?_)) | omega | (simp; done) | (simp; omega) | (simp [*]; done)))⟩
                  case measure => simp [intOf]; omega
            · have hE : Hid (machE ⟨st, sts⟩ = 2) := machE_state Hl.out h60 N400.out Hx.out (stOk_fin (by simp [finOk]; omega))
              go_wp2_with (first | (go_at_call 74; refine (ref_IsWeight _ _).mono ?_; rintro e w1 ⟨rfl, rfl⟩))
              go_ret
              exact ⟨ret1i hE.out.symm, (by repeat' (first | (with_reducible exact Below.refl _ _) | (with_reducible assumption) | (with_reducible refine Below.dr ?_ _) | (with_reducible refine Below.d1 ?_) | (with_reducible refine Below.al ?_ _) | (with_reducible refine Below.tr ?_ (by assumption)) | (with_reducible refine Below.drewN ?_ _) | (with_reducible refine Below.drew ?_) | (with_reducible refine Below.alloc ?_ ?_ _) | (with_reducible refine Below.setCell ?_ ?_ _) | (with_reducible refine Below.trans ?_ (Below.mono (by assumption) ?_)) | omega | (simp; done) | (simp; omega) | (simp [*]; done)))⟩
          · go_wp2_with fail
            go_ret
            exact ⟨ret1i (machE_good Hl.out h60 N400.out (by omega) hlt Hall.out).symm, hW⟩
      · go_wp2_with (first | (go_at_call 55; refine (ref_In _ _ _ _).mono ?_; rintro e w1 ⟨rfl, rfl⟩))
        go_ret
        exact ⟨ret1i (machE_start Hl.out h60 N400.out (by omega)).symm, (by repeat' (first | (with_reducible exact Below.refl _ _) | (with_reducible assumption) | (with_reducible refine Below.dr ?_ _) | (with_reducible refine Below.d1 ?_) | (with_reducible refine Below.al ?_ _) | (with_reducible refine Below.tr ?_ (by assumption)) | (with_reducible refine Below.drewN ?_ _) | (with_reducible refine Below.drew ?_) | (with_reducible refine Below.alloc ?_ ?_ _) | (with_reducible refine Below.setCell ?_ ?_ _) | (with_reducible refine Below.trans ?_ (Below.mono (by assumption) ?_)) | omega | (simp; done) | (simp; omega) | (simp [*]; done)))⟩
end Go.Proofs.Ytnnmdcagbcdfpaa
