/- Following arcs: plain words, and rows of integers that are appended to. -/
import Derived.Test.YtnnmdcagbcdfpaaArcs
import Derived.Test.YtnnmdcagbcdfpaaCommon
namespace Go.Proofs.Ytnnmdcagbcdfpaa
open Go.RowKit
set_option linter.unusedSimpArgs false
set_option linter.unusedVariables false

structure Fol where
  x : List Int
  y : List Int
  c : Int
  q : Int
def folStep (m : Mach) (s : Fol) (i : Int) : Option Fol :=
  if s.q < 0 ∨ i < 0 then none else
  match m.states[s.q.toNat]? with
  | none => none
  | some t => match t.arcs[i.toNat]? with
    | none => none
    | some a => some ⟨if a.i = 0 then s.x else s.x ++ [a.i], if a.o = 0 then s.y else s.y ++ [a.o], s.c + a.w, a.t⟩
def fol (m : Mach) (l : List Int) : Option Fol := l.foldl (fun s i => s.bind fun s => folStep m s i) (some ⟨[], [], 0, m.start⟩)
theorem fol_snoc (m : Mach) (l : List Int) (i : Int) : fol m (l ++ [i]) = (fol m l).bind fun s => folStep m s i := by simp [fol, List.foldl_append]
theorem fold_none (m : Mach) (l : List Int) : l.foldl (fun (s : Option Fol) i => s.bind fun s => folStep m s i) none = none := by
  induction l with
  | nil => rfl
  | cons a r ih => exact ih
theorem fol_none {m : Mach} {l : List Int} (k : Nat) (h : fol m (l.take k) = none) : fol m l = none := by
  have : fol m (l.take k ++ l.drop k) = none := by
    unfold fol at h ⊢
    rw [List.foldl_append, h]
    exact fold_none m _
  rwa [List.take_append_drop] at this
def folEnd (m : Mach) (l : List Int) : List Int × List Int × Int × Int :=
  if machE m = 0 then (if 400 < l.length then ([], [], 0, 1) else
    match fol m l with
    | none => ([], [], 0, 12)
    | some s => if s.q < 0 then ([], [], 0, 12) else match m.states[s.q.toNat]? with
      | none => ([], [], 0, 12)
      | some t => if t.fin = 1000000001 then ([], [], 0, 12) else if 1000000000 < s.c + t.fin then ([], [], 0, 4) else (s.x, s.y, s.c + t.fin, 0))
  else ([], [], 0, machE m)
theorem folEnd_bad {m : Mach} {l : List Int} {E : Int} (h : machE m = E) (hE : ¬ E = 0) : folEnd m l = ([], [], 0, E) := by
  subst h; unfold folEnd; rw [if_neg hE]
theorem folEnd_long {m : Mach} {l : List Int} (h : machE m = 0) (hl : 400 < l.length) : folEnd m l = ([], [], 0, 1) := by
  unfold folEnd; rw [if_pos h, if_pos hl]
theorem folEnd_none {m : Mach} {l : List Int} (h : machE m = 0) (hl : ¬ 400 < l.length) (hf : fol m l = none) : folEnd m l = ([], [], 0, 12) := by
  unfold folEnd; rw [if_pos h, if_neg hl, hf]
theorem folEnd_out {m : Mach} {l : List Int} {s : Fol} (h : machE m = 0) (hl : ¬ 400 < l.length) (hf : fol m l = some s) (hq : s.q < 0) : folEnd m l = ([], [], 0, 12) := by
  unfold folEnd; rw [if_pos h, if_neg hl, hf]; simp only; rw [if_pos hq]
theorem folEnd_fin {m : Mach} {l : List Int} {s : Fol} {t : St} (h : machE m = 0) (hl : ¬ 400 < l.length) (hf : fol m l = some s) (hq : ¬ s.q < 0) (ht : m.states[s.q.toNat]? = some t) :
    folEnd m l = if t.fin = 1000000001 then ([], [], 0, 12) else if 1000000000 < s.c + t.fin then ([], [], 0, 4) else (s.x, s.y, s.c + t.fin, 0) := by
  unfold folEnd; rw [if_pos h, if_neg hl, hf]; simp only; rw [if_neg hq, ht]
theorem fol_stop {m : Mach} {l : List Int} {k : Nat} {s : Fol} {i : Int} (hf : fol m (l.take k) = some s) (hi : l[k]? = some i) (hs : folStep m s i = none) : fol m l = none :=
  fol_none (k + 1) (by rw [take_snoc hi, fol_snoc, hf]; exact hs)
theorem fol_next {m : Mach} {l : List Int} {k : Nat} {s s' : Fol} {i : Int} (hf : fol m (l.take k) = some s) (hi : l[k]? = some i) (hs : folStep m s i = some s') : fol m (l.take (k + 1)) = some s' := by
  rw [take_snoc hi, fol_snoc, hf]; exact hs
theorem folStep_neg {m : Mach} {s : Fol} {i : Int} (h : s.q < 0 ∨ i < 0) : folStep m s i = none := by unfold folStep; rw [if_pos h]
theorem folStep_far {m : Mach} {s : Fol} {i : Int} {q : Nat} {t : St} (hq : s.q = q) (ht : m.states[q]? = some t) (hi : (t.arcs.length : Int) ≤ i) : folStep m s i = none := by
  unfold folStep
  split
  · rfl
  · rename_i h
    have : s.q.toNat = q := by omega
    rw [this, ht]
    have h2 : t.arcs[i.toNat]? = none := List.getElem?_eq_none (by omega)
    simp only [h2]
theorem folStep_go {m : Mach} {s : Fol} {q j : Nat} {t : St} {a : Ar} (hq : s.q = q) (ht : m.states[q]? = some t) (ha : t.arcs[j]? = some a) :
    folStep m s (j : Int) = some ⟨if a.i = 0 then s.x else s.x ++ [a.i], if a.o = 0 then s.y else s.y ++ [a.o], s.c + a.w, a.t⟩ := by
  unfold folStep
  rw [if_neg (by omega)]
  have : s.q.toNat = q := by omega
  rw [this, ht]
  simp only [Int.toNat_natCast, ha]

/-- What an append to one row leaves of it and of another row. -/
theorem ints_push {wr W w3 : World} {base B : Nat} {a : World} {xv yv v3 : Value} {xs ys : List Int} {n m : Nat} {e : TypeId} (hB : B ≤ base) (hbase : base ≤ wr.heap.size) (bel : Below B a wr)
    (hx : wr.ownsRow base e 1 xv n (xs.flatMap intCells)) (hy : wr.ownsRow base e 1 yv m (ys.flatMap intCells)) (hap : ∀ k, xv.ownBlock = some k → some k ≠ yv.ownBlock) (bW : Below wr.heap.size wr W)
    (hv : ∃ g cap, v3 = .slice (some ⟨g, 0, none⟩) (n + 1) cap ∧ (xv.ownBlock = some g ∨ g = W.heap.size) ∧ g < w3.heap.size) (gr : W.grownBy w3 xv.ownBlock) :
    w3.ownsRow base e 1 yv m (ys.flatMap intCells) ∧ (∀ k, v3.ownBlock = some k → some k ≠ yv.ownBlock) ∧ Below B a w3 := by
  have hs1 := bW.size
  have hs2 := gr.size
  refine ⟨(hy.below bW).frame fun k hk => gr.block k (by have := (hy.lt k hk).2; omega) (fun e => hap k e.symm hk.symm), ?_, ?_⟩
  · obtain ⟨g, cap, rfl, h1, _⟩ := hv
    intro k hk
    simp only [Value.ownBlock, Option.some.injEq] at hk
    subst hk
    rcases h1 with h1 | h1
    · exact hap _ h1
    · intro e
      have := (hy.lt _ e.symm).2
      omega
  · exact (bel.trans (bW.mono (by omega))).grown gr (by omega) (fun k hk => by have := (hx.lt k hk).1; omega)
end Go.Proofs.Ytnnmdcagbcdfpaa
