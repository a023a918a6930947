/- Part 33 of what the law SameSames rests on. -/
import Derived.Test.YthiknkcigcglkaaGreatDoorPkSS32
namespace Go.Proofs.YthiknkcigcglkaaGreatDoor
open Go.RowKit
open Go.Proofs.Tryz
set_option linter.unusedSimpArgs false
set_option linter.unusedVariables false
set_option maxRecDepth 100000
set_option maxHeartbeats 8000000
variable {M m : zr}
theorem FnP.wkE {Pre : World → Prop} {P : Program} {f : FuncId} {args : List V} {post post' : V → Prop} (h : FnP Pre P f args post) (hp : ∀ v, post v → v.pure → ∃ v', post' v' ∧ v'.pure ∧ ∀ w q g x, VRep w q g v x → VRep w q g v' x) : FnP Pre P f args post' := fun w out g xs h0 h1 h2 =>
  (h w out g xs h0 h1 h2).mono fun e w' ⟨v, x, k1, k2, k3, k4, k5⟩ => let ⟨v', j1, j2, j3⟩ := hp v k2 k3; ⟨v', x, k1, j1, j2, j3 _ _ _ _ k4, k5⟩
theorem j96 {e : Int} (hM : e ≠ 0 → M = ⟨0, []⟩) (v : V) (h : jy9 e M v) (_ : v.pure) : ∃ v', v' = .tup [mV M, .i e] ∧ v'.pure ∧ ∀ w q g x, VRep w q g v x → VRep w q g v' x := by
  refine ⟨_, rfl, by simp [V.pure, V.has, V.hasL], ?_⟩
  rcases h with ⟨h0, rfl⟩ | ⟨h0, rfl | ⟨h1, rfl⟩⟩
  · rw [hM h0]
    exact qs7 (q17 0)
  · rw [h0]
    exact fun _ _ _ _ h => h
  obtain ⟨st, sts⟩ := M; simp only at h1 ⊢; rw [h0, h1]; exact qs7 (q17 st)
theorem j04 (h : ceE m ≠ 0) : ceM m = ⟨0, []⟩ := by unfold ceM; rw [if_pos h]
theorem j34 (m : zr) : FnP uj prog 53 [mV m] (fun v => v = .tup [mV (ceM m), .i (ceE m)]) := (jA6 m).wkE (j96 j04)
theorem j05 (m : zr) : Fn prog 26 [mV m] (fun v => v = .tup [mV (ceM m), .i (ceE m)]) := (qN1 m).wkS (j96 j04)
end Go.Proofs.YthiknkcigcglkaaGreatDoor
