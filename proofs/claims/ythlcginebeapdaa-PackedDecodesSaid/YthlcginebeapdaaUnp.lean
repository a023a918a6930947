/- Machines of bytes: plain. -/
import Derived.Test.YthlcginebeapdaaAmTak
import Derived.Test.YthlcginebeapdaaReach
import Derived.Test.YthlcginebeapdaaCrc
namespace Go.Proofs.Ythlcginebeapdaa
open Go.RowKit
set_option linter.unusedSimpArgs false
set_option linter.unusedVariables false

def arcAt (l : List Nat) : Ar := ⟨numB (l.take 2), numB ((l.drop 2).take 2), numB ((l.drop 4).take 4), numB ((l.drop 8).take 1)⟩
def arcsL : Nat → List Nat → List Ar
  | 0, _ => []
  | k + 1, l => arcAt l :: arcsL k (l.drop 9)
theorem arcsL_len : ∀ (k : Nat) (l : List Nat), (arcsL k l).length = k
  | 0, _ => rfl
  | k + 1, l => by simp [arcsL, arcsL_len k]
theorem arcsL_snoc : ∀ (k : Nat) (l : List Nat), arcsL (k + 1) l = arcsL k l ++ [arcAt (l.drop (9 * k))]
  | 0, l => by simp [arcsL]
  | k + 1, l => by
    rw [arcsL, arcsL_snoc k (l.drop 9), arcsL, List.cons_append, List.drop_drop, show 9 + 9 * k = 9 * (k + 1) by omega]
def manyL (l : List Nat) : Nat := numB ((l.drop 4).take 2)
def stOf (l : List Nat) : St := ⟨numB (l.take 4), arcsL (manyL l) (l.drop 6)⟩
def okSt (l : List Nat) : Prop := 6 + 9 * manyL l ≤ l.length
instance (l : List Nat) : Decidable (okSt l) := inferInstanceAs (Decidable (_ ≤ _))
def stsL : Nat → List Nat → Option (List St × List Nat)
  | 0, l => some ([], l)
  | k + 1, l => if okSt l then (stsL k (l.drop (6 + 9 * manyL l))).map (fun x => (stOf l :: x.1, x.2)) else none
/-- Of n states in R0, q are read: P; R is left. -/
structure Gone (n : Nat) (R0 : List Nat) (q : Nat) (P : List St) (R : List Nat) : Prop where
  len : P.length = q
  eq : stsL n R0 = (stsL (n - q) R).map (fun x => (P ++ x.1, x.2))
  le : R.length ≤ R0.length
  lt : (∀ c ∈ R0, c < 256) → ∀ c ∈ R, c < 256
theorem Gone.init (n : Nat) (R0 : List Nat) : Gone n R0 0 [] R0 := ⟨rfl, by cases h : stsL n R0 <;> simp [h], Nat.le_refl _, fun h => h⟩
section
variable {n q : Nat} {R0 R : List Nat} {P : List St}
theorem Gone.step (h : Gone n R0 q P R) (hq : q < n) (hok : okSt R) : Gone n R0 (q + 1) (P ++ [stOf R]) (R.drop (6 + 9 * manyL R)) := by
  obtain ⟨h1, h2, h3, h4⟩ := h
  refine ⟨by simp [h1], ?_, by rw [List.length_drop]; omega, fun hb c hc => h4 hb c (List.mem_of_mem_drop hc)⟩
  obtain ⟨k, hk⟩ : ∃ k, n - q = k + 1 := ⟨n - q - 1, by omega⟩
  rw [h2, hk, show n - (q + 1) = k by omega, stsL, if_pos hok]
  cases stsL k (R.drop (6 + 9 * manyL R)) <;> simp
theorem Gone.fail (h : Gone n R0 q P R) (hq : q < n) (hok : ¬ okSt R) : stsL n R0 = none := by
  obtain ⟨k, hk⟩ : ∃ k, n - q = k + 1 := ⟨n - q - 1, by omega⟩
  rw [h.eq, hk, stsL, if_neg hok]
  rfl
theorem Gone.done (h : Gone n R0 q P R) (hq : ¬ q < n) : stsL n R0 = some (P, R) := by
  rw [h.eq, show n - q = 0 by omega, stsL]
  simp
end
/-- What the decoding yields: a machine and an error. -/
def dcR (l : List Nat) : Mach × Int :=
  if 8000 < l.length then (⟨0, []⟩, 1) else if l.length < 5 then (⟨0, []⟩, 3) else if crc (l.take (l.length - 2)) ≠ numB (l.drop (l.length - 2)) then (⟨0, []⟩, 11) else
  match stsL (l.getD 1 0) ((l.take (l.length - 2)).drop 3) with
  | none => (⟨0, []⟩, 3)
  | some (L, r) => if l.getD 0 0 = 84 ∧ r = [] ∧ machE ⟨(l.getD 2 0 : Int) - 1, L⟩ = 0 then (⟨(l.getD 2 0 : Int) - 1, L⟩, 0) else (⟨0, []⟩, 3)
end Go.Proofs.Ythlcginebeapdaa
