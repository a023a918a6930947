/- core.Check: what is wrong with a machine. -/
import Derived.Test.YtnnmdcagbcdfpaaArcOk
namespace Go.Proofs.Ytnnmdcagbcdfpaa
open Go.RowKit
set_option linter.unusedSimpArgs false
set_option linter.unusedVariables false

set_option maxHeartbeats 2000000 in
theorem core_Check (v : Value) (m : Mach) (w : World) (h : MachAt w v m) : Calls Try.prog 44 #[v] w fun e w' => e = .returned (.int .i64 (machE m)) ∧ Below w.heap.size w w' := by
  obtain ⟨a, len, cap, rfl, hl, H, Hl⟩ := MachAt.opens h
  clear h
  obtain ⟨st, sts⟩ := m
  simp only at H Hl ⊢
  by_cases h60 : 60 < len
  · go_enter Try.func44, Try.ntmps44
    go_wp2_with fail
    go_ret
    exact ⟨ret1i (machE_size (.inl (by rw [Hl.out]; exact h60))).symm, (by repeat' (first | (with_reducible exact Below.refl _ _) | (with_reducible assumption) | (with_reducible refine Below.dr ?_ _) | (with_reducible refine Below.d1 ?_) | (with_reducible refine Below.al ?_ _) | (with_reducible refine Below.tr ?_ (by assumption)) | (with_reducible refine Below.drewN ?_ _) | (with_reducible refine Below.drew ?_) | (with_reducible refine Below.alloc ?_ ?_ _) | (with_reducible refine Below.setCell ?_ ?_ _) | (with_reducible refine Below.trans ?_ (Below.mono (by assumption) ?_)) | omega | (simp; done) | (simp; omega) | (simp [*]; done)))⟩
  · go_enter Try.func44, Try.ntmps44
    go_wp2_with fail
    go_loopw [4, 17] (fun t i wr => ∃ k s : Nat, k ≤ len ∧ i = .int .i64 k ∧ t = .int .i64 s ∧ s ≤ k * 4398046511104 ∧ s = arcN (sts.take k) ∧ Below (w.heap.size + 1 + 1) ((w.alloc (.cells #[.int .i64 st, .slice a len cap] 24)).alloc (.cells #[.int .i64 len] 3)) wr) (fun _ i _ => len - (intOf i).toNat)
    case atStart => exact ⟨0, 0, Nat.zero_le _, rfl, rfl, by omega, rfl, Below.refl _ _⟩
    case round =>
      obtain ⟨k, s, hk, rfl, rfl, hs, hs', hbel⟩ := hrel
      have Hs := Lib.hid hs'
      clear hs'
      have hW : Below w.heap.size w wr := Below.trans (Below.al (Below.al (Below.refl _ _) _) _) (hbel.mono (by omega))
      have g0 : wr.cell? ⟨w.heap.size, 0, none⟩ = some (.int .i64 st) := (hbel.cell (p := ⟨w.heap.size, 0, none⟩) (by simp)).trans (by simp [go_sem])
      have g1 : wr.cell? ⟨w.heap.size, 1, none⟩ = some (.slice a len cap) := (hbel.cell (p := ⟨w.heap.size, 1, none⟩) (by simp)).trans (by simp [go_sem])
      have g2 : wr.cell? ⟨w.heap.size + 1, 0, none⟩ = some (.int .i64 len) := (hbel.cell (p := ⟨w.heap.size + 1, 0, none⟩) (by simp)).trans (by simp [go_sem])
      have hz0 := blt g0
      have hz1 := blt g2
      by_cases hlt : k < len
      · obtain ⟨b, o, x, av, rfl, hx, c0, c1, cA⟩ := StatesAt.at (StatesAt.mono H.out hW) hlt
        obtain ⟨a', len', cap', rfl, hl', -, Hl'⟩ := ArcsAt.opens cA
        have Hx := Lib.hid hx
        clear hx cA
        go_wp2_with fail
        go_roundw
        case rel => exact ⟨k + 1, s + len', by omega, by go_num, by go_num, by omega, by rw [take_snoc Hx.out, arcN_snoc, Hl'.out, Hs.out], Below.alloc hbel (by have := hbel.size; simp at this; omega) _⟩
        case measure => simp [intOf]; omega
      · have h400' := arcN_full Hl.out hlt
        rw [← Hs.out] at h400'
        have H400 := Lib.hid h400'
        clear h400'
        by_cases hs4 : 400 < s
        · go_wp2_with fail
          go_ret
          exact ⟨ret1i (machE_size (.inr (by rw [← H400.out]; exact hs4))).symm, hW⟩
        · have N400 : Hid (¬ 400 < arcN sts) := by rw [← H400.out]; exact hs4
          by_cases hst : st < -1
          · go_wp2_with fail
            go_ret
            exact ⟨ret1i (machE_start Hl.out h60 N400.out (by omega)).symm, hW⟩
          · by_cases hst2 : (len : Int) ≤ st
            · go_wp2_with fail
              go_ret
              exact ⟨ret1i (machE_start Hl.out h60 N400.out (by omega)).symm, hW⟩
            · have HW := Lib.hid hW
              have HB := Lib.hid hbel
              clear hW hbel H400 Hs
              obtain ⟨wo, rfl⟩ : ∃ wo : World, wo = wr := ⟨_, rfl⟩
              go_wp2_with fail
              go_loopw [41] (fun i wr => ∃ k : Nat, k ≤ len ∧ i = .int .i64 k ∧ (sts.take k).all (stOk len) = true ∧ Below wo.heap.size wo wr) (fun i _ => len - (intOf i).toNat)
              case atStart => exact ⟨0, Nat.zero_le _, rfl, rfl, Below.refl _ _⟩
              case round =>
                clear hk hlt
                obtain ⟨k, hk, rfl, hall, hbel⟩ := hrel
                have Hall := Lib.hid hall
                clear hall
                have hW : Below w.heap.size w wr := HW.out.trans (hbel.mono HW.out.size)
                have q0 := (hbel.cell (p := ⟨w.heap.size, 0, none⟩) hz0).trans g0
                have q1 := (hbel.cell (p := ⟨w.heap.size, 1, none⟩) hz0).trans g1
                have q2 := (hbel.cell (p := ⟨w.heap.size + 1, 0, none⟩) hz1).trans g2
                have hy0 := blt q0
                have hy1 := blt q2
                by_cases hlt : k < len
                · obtain ⟨b, o, x, av, rfl, hx, c0, c1, cA⟩ := StatesAt.at (StatesAt.mono H.out hW) hlt
                  have Hx := Lib.hid hx
                  obtain ⟨a', len', cap', rfl, hl', HA, -⟩ := ArcsAt.opens cA
                  clear hx cA
                  by_cases hA : x.arcs.all (arOk len) = true
                  · by_cases hfi : 0 ≤ x.fin ∧ x.fin ≤ 1000000000
                    · go_wp2_with (first | (go_at_call 70; refine (core_weight_yes _ _ hfi).mono ?_; rintro e w1 ⟨rfl, rfl⟩) | (go_at_call 71; refine (slices_ContainsFunc _ x.arcs _ len _ (HA.out.mono (by repeat' (first | (with_reducible exact Below.refl _ _) | (with_reducible assumption) | (with_reducible refine Below.dr ?_ _) | (with_reducible refine Below.d1 ?_) | (with_reducible refine Below.al ?_ _) | (with_reducible refine Below.tr ?_ (by assumption)) | (with_reducible refine Below.drewN ?_ _) | (with_reducible refine Below.drew ?_) | (with_reducible refine Below.alloc ?_ ?_ _) | (with_reducible refine Below.setCell ?_ ?_ _) | (with_reducible refine Below.trans ?_ (Below.mono (by assumption) ?_)) | omega | (simp; done) | (simp; omega) | (simp [*]; done)))) (cell_al q2 _)).mono ?_; rintro e w1 ⟨rfl, hb⟩))
                      go_roundw
                      case rel => exact ⟨k + 1, by omega, by go_num, all_snoc' Hx.out Hall.out (stOk_yes (by simp [finOk]; omega) hA), (by repeat' (first | (with_reducible exact Below.refl _ _) | (with_reducible assumption) | (with_reducible refine Below.dr ?_ _) | (with_reducible refine Below.d1 ?_) | (with_reducible refine Below.al ?_ _) | (with_reducible refine Below.tr ?_ (by assumption)) | (with_reducible refine Below.drewN ?_ _) | (with_reducible refine Below.drew ?_) | (with_reducible refine Below.alloc ?_ ?_ _) | (with_reducible refine Below.setCell ?_ ?_ _) | (with_reducible refine Below.trans ?_ (Below.mono (by assumption) ?_)) | omega | (simp; done) | (simp; omega) | (simp [*]; done)))⟩
                      case measure => simp [intOf]; omega
                    · by_cases hf : x.fin = 1000000001
                      · have hfb : (x.fin != 1000000001) = false := by simp [hf]
                        have HF := Lib.hid hf
                        clear hf
                        go_wp2_with (first | (go_at_call 70; refine (core_weight_no _ _ hfi).mono ?_; rintro e w1 ⟨rfl, rfl⟩) | (go_at_call 71; refine (slices_ContainsFunc _ x.arcs _ len _ (HA.out.mono (by repeat' (first | (with_reducible exact Below.refl _ _) | (with_reducible assumption) | (with_reducible refine Below.dr ?_ _) | (with_reducible refine Below.d1 ?_) | (with_reducible refine Below.al ?_ _) | (with_reducible refine Below.tr ?_ (by assumption)) | (with_reducible refine Below.drewN ?_ _) | (with_reducible refine Below.drew ?_) | (with_reducible refine Below.alloc ?_ ?_ _) | (with_reducible refine Below.setCell ?_ ?_ _) | (with_reducible refine Below.trans ?_ (Below.mono (by assumption) ?_)) | omega | (simp; done) | (simp; omega) | (simp [*]; done)))) (cell_al q2 _)).mono ?_; rintro e w1 ⟨rfl, hb⟩))
                        go_roundw
                        case rel => exact ⟨k + 1, by omega, by go_num, all_snoc' Hx.out Hall.out (stOk_yes (by have := HF.out; simp [finOk]; omega) hA), (by repeat' (first | (with_reducible exact Below.refl _ _) | (with_reducible assumption) | (with_reducible refine Below.dr ?_ _) | (with_reducible refine Below.d1 ?_) | (with_reducible refine Below.al ?_ _) | (with_reducible refine Below.tr ?_ (by assumption)) | (with_reducible refine Below.drewN ?_ _) | (with_reducible refine Below.drew ?_) | (with_reducible refine Below.alloc ?_ ?_ _) | (with_reducible refine Below.setCell ?_ ?_ _) | (with_reducible refine Below.trans ?_ (Below.mono (by assumption) ?_)) | omega | (simp; done) | (simp; omega) | (simp [*]; done)))⟩
                        case measure => simp [intOf]; omega
                      · have hfb : (x.fin != 1000000001) = true := by simp [hf]
                        have hE : Hid (machE ⟨st, sts⟩ = 2) := machE_state Hl.out h60 N400.out Hx.out (stOk_fin (by simp [finOk]; omega))
                        clear hf
                        go_wp2_with (go_at_call 70; refine (core_weight_no _ _ hfi).mono ?_; rintro e w1 ⟨rfl, rfl⟩)
                        go_ret
                        exact ⟨ret1i hE.out.symm, (by repeat' (first | (with_reducible exact Below.refl _ _) | (with_reducible assumption) | (with_reducible refine Below.dr ?_ _) | (with_reducible refine Below.d1 ?_) | (with_reducible refine Below.al ?_ _) | (with_reducible refine Below.tr ?_ (by assumption)) | (with_reducible refine Below.drewN ?_ _) | (with_reducible refine Below.drew ?_) | (with_reducible refine Below.alloc ?_ ?_ _) | (with_reducible refine Below.setCell ?_ ?_ _) | (with_reducible refine Below.trans ?_ (Below.mono (by assumption) ?_)) | omega | (simp; done) | (simp; omega) | (simp [*]; done)))⟩
                  · have hA' : x.arcs.all (arOk len) = false := by simpa using hA
                    have hE : Hid (machE ⟨st, sts⟩ = 2) := machE_state Hl.out h60 N400.out Hx.out (stOk_arcs hA')
                    clear hA
                    by_cases hfi : 0 ≤ x.fin ∧ x.fin ≤ 1000000000
                    · go_wp2_with (first | (go_at_call 70; refine (core_weight_yes _ _ hfi).mono ?_; rintro e w1 ⟨rfl, rfl⟩) | (go_at_call 71; refine (slices_ContainsFunc _ x.arcs _ len _ (HA.out.mono (by repeat' (first | (with_reducible exact Below.refl _ _) | (with_reducible assumption) | (with_reducible refine Below.dr ?_ _) | (with_reducible refine Below.d1 ?_) | (with_reducible refine Below.al ?_ _) | (with_reducible refine Below.tr ?_ (by assumption)) | (with_reducible refine Below.drewN ?_ _) | (with_reducible refine Below.drew ?_) | (with_reducible refine Below.alloc ?_ ?_ _) | (with_reducible refine Below.setCell ?_ ?_ _) | (with_reducible refine Below.trans ?_ (Below.mono (by assumption) ?_)) | omega | (simp; done) | (simp; omega) | (simp [*]; done)))) (cell_al q2 _)).mono ?_; rintro e w1 ⟨rfl, hb⟩))
                      go_ret
                      exact ⟨ret1i hE.out.symm, (by repeat' (first | (with_reducible exact Below.refl _ _) | (with_reducible assumption) | (with_reducible refine Below.dr ?_ _) | (with_reducible refine Below.d1 ?_) | (with_reducible refine Below.al ?_ _) | (with_reducible refine Below.tr ?_ (by assumption)) | (with_reducible refine Below.drewN ?_ _) | (with_reducible refine Below.drew ?_) | (with_reducible refine Below.alloc ?_ ?_ _) | (with_reducible refine Below.setCell ?_ ?_ _) | (with_reducible refine Below.trans ?_ (Below.mono (by assumption) ?_)) | omega | (simp; done) | (simp; omega) | (simp [*]; done)))⟩
                    · by_cases hf : x.fin = 1000000001
                      · have hfb : (x.fin != 1000000001) = false := by simp [hf]
                        clear hf
                        go_wp2_with (first | (go_at_call 70; refine (core_weight_no _ _ hfi).mono ?_; rintro e w1 ⟨rfl, rfl⟩) | (go_at_call 71; refine (slices_ContainsFunc _ x.arcs _ len _ (HA.out.mono (by repeat' (first | (with_reducible exact Below.refl _ _) | (with_reducible assumption) | (with_reducible refine Below.dr ?_ _) | (with_reducible refine Below.d1 ?_) | (with_reducible refine Below.al ?_ _) | (with_reducible refine Below.tr ?_ (by assumption)) | (with_reducible refine Below.drewN ?_ _) | (with_reducible refine Below.drew ?_) | (with_reducible refine Below.alloc ?_ ?_ _) | (with_reducible refine Below.setCell ?_ ?_ _) | (with_reducible refine Below.trans ?_ (Below.mono (by assumption) ?_)) | omega | (simp; done) | (simp; omega) | (simp [*]; done)))) (cell_al q2 _)).mono ?_; rintro e w1 ⟨rfl, hb⟩))
                        go_ret
                        exact ⟨ret1i hE.out.symm, (by repeat' (first | (with_reducible exact Below.refl _ _) | (with_reducible assumption) | (with_reducible refine Below.dr ?_ _) | (with_reducible refine Below.d1 ?_) | (with_reducible refine Below.al ?_ _) | (with_reducible refine Below.tr ?_ (by assumption)) | (with_reducible refine Below.drewN ?_ _) | (with_reducible refine Below.drew ?_) | (with_reducible refine Below.alloc ?_ ?_ _) | (with_reducible refine Below.setCell ?_ ?_ _) | (with_reducible refine Below.trans ?_ (Below.mono (by assumption) ?_)) | omega | (simp; done) | (simp; omega) | (simp [*]; done)))⟩
                      · have hfb : (x.fin != 1000000001) = true := by simp [hf]
                        clear hf
                        go_wp2_with (go_at_call 70; refine (core_weight_no _ _ hfi).mono ?_; rintro e w1 ⟨rfl, rfl⟩)
                        go_ret
                        exact ⟨ret1i hE.out.symm, (by repeat' (first | (with_reducible exact Below.refl _ _) | (with_reducible assumption) | (with_reducible refine Below.dr ?_ _) | (with_reducible refine Below.d1 ?_) | (with_reducible refine Below.al ?_ _) | (with_reducible refine Below.tr ?_ (by assumption)) | (with_reducible refine Below.drewN ?_ _) | (with_reducible refine Below.drew ?_) | (with_reducible refine Below.alloc ?_ ?_ _) | (with_reducible refine Below.setCell ?_ ?_ _) | (with_reducible refine Below.trans ?_ (Below.mono (by assumption) ?_)) | omega | (simp; done) | (simp; omega) | (simp [*]; done)))⟩
                · go_wp2_with fail
                  go_ret
                  exact ⟨ret1i (machE_good Hl.out h60 N400.out (by omega) hlt Hall.out).symm, hW⟩
end Go.Proofs.Ytnnmdcagbcdfpaa
