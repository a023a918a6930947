/- A slice of states that is being built beside a variable that is newer than its first rows. -/
import Derived.Test.YtnnmdcagbcdfpaaRatTop
import Derived.Test.YtnnmdcagbcdfpaaRatRef
namespace Go.Proofs.Ytnnmdcagbcdfpaa
open Go.RowKit
set_option linter.unusedSimpArgs false
set_option linter.unusedVariables false

/-- No row of what is being built lies in block O. -/
structure BldX (w : World) (base O : Nat) (sv : Value) (ts : List (Int × Value × List Ar)) : Prop where
  bld : Bld w base sv ts
  here : some O ≠ sv.ownBlock
  there : ∀ x ∈ ts, some O ≠ x.2.1.ownBlock
section
variable {w w' : World} {base O : Nat} {sv : Value} {ts : List (Int × Value × List Ar)}
theorem BldX.below (h : BldX w base O sv ts) (hb : Below w.heap.size w w') : BldX w' base O sv ts := ⟨h.bld.below hb, h.here, h.there⟩
theorem BldX.stored (h : BldX w base O sv ts) (i : Nat) (u : Value) : BldX (w.setCell ⟨O, i, none⟩ u) base O sv ts :=
  ⟨⟨h.bld.own.frame fun k hk => Below.heap_setCell _ _ _ _ (fun e => h.here (by rw [hk]; exact congrArg some e.symm)),
    fun x hx => (h.bld.arcs x hx).frame fun k hk => Below.heap_setCell _ _ _ _ (fun e => h.there x hx (by rw [hk]; exact congrArg some e.symm)), h.bld.small, h.bld.apart, h.bld.pair⟩, h.here, h.there⟩
theorem BldX.nil (w : World) (base O : Nat) : BldX w base O (.slice none 0 0) [] := ⟨Bld.nil _ _, by simp [Value.ownBlock], by simp⟩
theorem BldX.push {wr W w2 : World} {v2 : Value} {x : Int × Value × List Ar} (hz : base ≤ wr.heap.size) (hO : O < wr.heap.size)
    (HB : BldX wr base O sv ts) (hW : Below wr.heap.size wr W) (hx : W.ownsRow base 59 4 x.2.1 x.2.2.length (x.2.2.flatMap arCells)) (hs : x.2.2.length * 32 ≤ 140737488355328) (hap : ∀ k, x.2.1.ownBlock = some k → wr.heap.size ≤ k)
    (hown2 : w2.ownsRow base 55 2 v2 (ts.length + 1) ((ts ++ [x]).flatMap stCells))
    (hv2 : ∃ g cap, v2 = .slice (some ⟨g, 0, none⟩) (ts.length + 1) cap ∧ (sv.ownBlock = some g ∨ g = W.heap.size) ∧ g < w2.heap.size)
    (hgrow2 : W.grownBy w2 sv.ownBlock) : Below base wr w2 ∧ BldX w2 base O v2 (ts ++ [x]) ∧ w2.heap[O]? = wr.heap[O]? := by
  obtain ⟨h1, h2⟩ := push_step2 hz HB.bld hW hx hs hap hown2 hv2 hgrow2
  have hs1 := hW.size
  refine ⟨h1, ⟨h2, ?_, ?_⟩, (hgrow2.block O (by omega) HB.here).trans (hW.block O hO)⟩
  · obtain ⟨g, cap, rfl, hg, _⟩ := hv2
    rcases hg with hg | hg
    · intro e
      exact HB.here (e.trans hg.symm)
    · simp only [Value.ownBlock, ne_eq, Option.some.injEq]
      omega
  · intro y hy
    rcases List.mem_append.1 hy with hy | hy
    · exact HB.there y hy
    · simp only [List.mem_singleton] at hy
      subst hy
      intro e
      have := hap O e.symm
      omega
end
theorem StNew.opens {w : World} {base : Nat} {v : Value} {s : St} (h : StNew w base v s) : ∃ a cap, v = .agg #[.int .i64 s.fin, .slice a s.arcs.length cap] ∧ Hid (w.ownsRow base 59 4 (.slice a s.arcs.length cap) s.arcs.length (s.arcs.flatMap arCells)) := h
end Go.Proofs.Ytnnmdcagbcdfpaa
