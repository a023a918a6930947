/- tropicalaw.sameMachine: two machines are held against each other. -/
import Derived.Test.YtnnmdcagbcdfpaaSame
import Derived.Test.YtnnmdcagbcdfpaaKeep
namespace Go.Proofs.Ytnnmdcagbcdfpaa
open Go.RowKit
set_option linter.unusedSimpArgs false
set_option linter.unusedVariables false

theorem law_sameMachine (v u : Value) (m m' : Mach) (w : World) (h : MachAt w v m) (g : MachAt w u m') : Calls Try.prog 20 #[v, u] w fun e w' => ∃ q, e = .returned (.bool q) ∧ (q = true ↔ m = m') ∧ Below w.heap.size w w' := by
  have H0 := Lib.hid h
  have G0 := Lib.hid g
  obtain ⟨a, len, cap, rfl, hl, H, Hl⟩ := MachAt.opens h
  obtain ⟨a', len', cap', rfl, hl', H', Hl'⟩ := MachAt.opens g
  clear h g
  go_enter Try.func20, Try.ntmps20
  go_wp2_with (go_at_call 49; refine (ref_SameMachine _ _ m m' _ (H0.out.mono (by repeat' (first | (with_reducible exact Below.refl _ _) | (with_reducible assumption) | (with_reducible refine Below.dr ?_ _) | (with_reducible refine Below.d1 ?_) | (with_reducible refine Below.al ?_ _) | (with_reducible refine Below.tr ?_ (by assumption)) | (with_reducible refine Below.drewN ?_ _) | (with_reducible refine Below.drew ?_) | (with_reducible refine Below.alloc ?_ ?_ _) | (with_reducible refine Below.setCell ?_ ?_ _) | (with_reducible refine Below.trans ?_ (Below.mono (by assumption) ?_)) | omega | (simp; done) | (simp; omega) | (simp [*]; done)))) (G0.out.mono (by repeat' (first | (with_reducible exact Below.refl _ _) | (with_reducible assumption) | (with_reducible refine Below.dr ?_ _) | (with_reducible refine Below.d1 ?_) | (with_reducible refine Below.al ?_ _) | (with_reducible refine Below.tr ?_ (by assumption)) | (with_reducible refine Below.drewN ?_ _) | (with_reducible refine Below.drew ?_) | (with_reducible refine Below.alloc ?_ ?_ _) | (with_reducible refine Below.setCell ?_ ?_ _) | (with_reducible refine Below.trans ?_ (Below.mono (by assumption) ?_)) | omega | (simp; done) | (simp; omega) | (simp [*]; done))))).mono ?_; rintro e w1 ⟨q, rfl, hq, hb⟩; have Hq := Lib.hid hq; clear hq)
  go_ret
  exact ⟨_, rfl, Hq.out, (by repeat' (first | (with_reducible exact Below.refl _ _) | (with_reducible assumption) | (with_reducible refine Below.dr ?_ _) | (with_reducible refine Below.d1 ?_) | (with_reducible refine Below.al ?_ _) | (with_reducible refine Below.tr ?_ (by assumption)) | (with_reducible refine Below.drewN ?_ _) | (with_reducible refine Below.drew ?_) | (with_reducible refine Below.alloc ?_ ?_ _) | (with_reducible refine Below.setCell ?_ ?_ _) | (with_reducible refine Below.trans ?_ (Below.mono (by assumption) ?_)) | omega | (simp; done) | (simp; omega) | (simp [*]; done)))⟩
theorem law_sameMachine_yes (v u : Value) (m : Mach) (w : World) (h : MachAt w v m) (g : MachAt w u m) : Calls Try.prog 20 #[v, u] w fun e w' => e = .returned (.bool true) ∧ Below w.heap.size w w' :=
  (law_sameMachine v u m m w h g).mono fun _ _ ⟨q, h1, h2, h3⟩ => ⟨by rw [h1, h2.2 rfl], h3⟩
end Go.Proofs.Ytnnmdcagbcdfpaa
