/- Two new objects in a drawn region: what is written to them harms nobody. -/
import Derived.Test.YtnpbdcjfealoeaaAmJ
namespace Go.Proofs.Ytnpbdcjfealoeaa
open Go.RowKit
set_option linter.unusedSimpArgs false
set_option linter.unusedVariables false

section
variable {c : Cx} {s : S} {Q : Exit → S → Prop} {L : List Oper} {need : Nat → Bool} {i : Nat} {o : Oper} {l : List (Nat × Bool)} {r r1 r2 : Nat}
def AQ2 (r1 r2 : Nat) (c : Cx) (ops : Array Oper) (Q : Exit → S → Prop) (need : Nat → Bool) (l : List (Nat × Bool)) (s : S) : Prop := ∀ W g a w, Sim c g s a w → Below W.heap.size W w → W.heap.size ≤ (g r1).1 → W.heap.size ≤ (g r2).1 → ASeq c.P ops (QQ c Q) (Below W.heap.size W) need l a w
theorem AQ.new {X : S} (hi : L[i]? = some o) (hg : o.guard = none) (h : StepG c o s r2 (fun s' => s' = X)) (hne : r1 ≠ r2) (hN : AQ2 r1 r2 c L.toArray Q need l X) : AQ r1 c L.toArray Q need ((i, false) :: l) s := fun W g a w hs hb hr =>
  wpOp_of (by simpa using hi) hg (h g a w hs _ _ fun g' s' a' w' h1 h2 h3 h4 h5 => by
    subst h1
    have hb' := hb.trans (h3.mono hb.size)
    exact ⟨fun _ => hb', hN W g' a' w' h2 hb' (by rw [h4 r1 hne]; exact hr) (Nat.le_trans hb.size h5)⟩)
theorem AQ2.st {row row' : Row} (hi : L[i]? = some o) (hg : o.guard = none) (h : StepS c o s r row' ∧ row.nil = false ∧ fnd s.H r = some row) (hr12 : r = r1 ∨ r = r2) (hN : AQ2 r1 r2 c L.toArray Q need l { s with H := (r, row') :: s.H }) : AQ2 r1 r2 c L.toArray Q need ((i, false) :: l) s := fun W g a w hs hb hr hr' =>
  wpOp_of (by simpa using hi) hg (h.1 g a w hs _ _ fun a' w' h2 h3 => by
    have hle : W.heap.size ≤ (g r).1 := by rcases hr12 with rfl | rfl <;> assumption
    have hb' : Below W.heap.size W w' := ⟨by rw [← hb.os, h2.below.os, hs.below.os], by rw [← hb.tape, h2.below.tape, hs.below.tape], by rw [← hb.output, h2.below.output, hs.below.output], by rw [h3.1]; exact hb.size, fun k hk => (h3.2 k (by omega)).trans (hb.block k hk)⟩
    exact ⟨fun _ => hb', hN W g a' w' h2 hb' hr hr'⟩)
theorem AQ2.rp1 {v : V} (hi : L[i]? = some o) (hg : o.guard = none) (hd : dok s o = true) (h : RP c o s v) (hN : AQ2 r1 r2 c L.toArray Q need l (s.put o.dst v)) : AQ2 r1 r2 c L.toArray Q need ((i, false) :: l) s := fun W g a w hs hb hr hr' => by
  obtain ⟨x, h1, h2⟩ := h g a w hs
  refine wpOp_of (by simpa using hi) hg ?_
  unfold Oper.wp
  rw [h2 w]
  exact ⟨fun _ => hb, hN W g _ w (hs.put o.dst (dok_spec hd) h1) hb hr hr'⟩
theorem AQ2.nil (h : Q .normal s) : AQ2 r1 r2 c L.toArray Q need [] s := fun W g a w hs _ _ _ => ⟨g, s, h, hs⟩
variable {n a b : Nat} {T T' : List (Nat × V)} {x1 x2 z1 z2 : Row} {R : List (Nat × Row)} {K : List V}
theorem Less.dropA : Less ⟨n, ddL [] T, (a, x1) :: (b, x2) :: R, K⟩ ⟨n, T, (a, x1) :: (b, x2) :: (a, z1) :: (b, z2) :: R, K⟩ := by
  refine ⟨rfl, fun i v h => ⟨v, (ddL_get _ _ _ _ h).2, .refl _⟩, fun r row h => ⟨row, ?_, rfl, rfl, rfl, fun j v hv => ⟨v, hv, .refl _⟩⟩, fun j v h => ⟨v, h, .refl _⟩⟩
  simp only [fnd] at h ⊢
  split at h
  · rename_i e; rw [if_pos e]; exact h
  · rename_i e
    rw [if_neg e]
    split at h
    · rename_i e2; rw [if_pos e2]; exact h
    · rename_i e2; rw [if_neg e2, if_neg e, if_neg e2]; exact h
theorem Less.dropB (hT : LT ⟨n, T', (a, x1) :: (b, x2) :: (b, z2) :: (a, z1) :: R, K⟩ T) : Less ⟨n, T, (a, x1) :: (b, x2) :: R, K⟩ ⟨n, T', (a, x1) :: (b, x2) :: (b, z2) :: (a, z1) :: R, K⟩ := by
  refine ⟨rfl, fun i v h => hT.get i v h, fun r row h => ⟨row, ?_, rfl, rfl, rfl, fun j v hv => ⟨v, hv, .refl _⟩⟩, fun j v h => ⟨v, h, .refl _⟩⟩
  simp only [fnd] at h ⊢
  split at h
  · rename_i e; rw [if_pos e]; exact h
  · rename_i e
    rw [if_neg e]
    split at h
    · rename_i e2; rw [if_pos e2]; exact h
    · rename_i e2; rw [if_neg e2, if_neg e2, if_neg e]; exact h
end
end Go.Proofs.Ytnpbdcjfealoeaa
