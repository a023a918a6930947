/- Flat rows of several cells: whole rows are read and written. -/
import Derived.Test.YthlcginebeapdaaAmW
import Derived.Test.YthlcginebeapdaaAmN
import Derived.Test.YthlcginebeapdaaAmH
namespace Go.Proofs.Ythlcginebeapdaa
open Go.RowKit
set_option linter.unusedSimpArgs false
set_option linter.unusedVariables false
section
variable {c : Cx} {s : S} {o : Oper}
theorem rd_loads_flat {α : Type} {t : TypeId} {d : TypeDesc} {x : Operand} {r k sz bt : Nat} {z : Value} {row : Row} {W : List α} {enc : α → List V} {y : α} (hu : c.P.underlying t = some d) (hd : isAggD d = true) (hi : Inf c.P t sz bt z) (ho : o.op = .load t x) (hx : s.ev x = some (.ref r (k * sz))) (hr : fnd s.H r = some row) (hn : row.nil = false)
    (hc : row.cells = W.flatMap enc) (hsz : ∀ x, (enc x).length = sz) (hl : W[k]? = some y) : RD c o s (.agg (enc y)) := by
  refine rd_loads_ref hu hd hi ho hx hr hn ?_ (hsz y)
  apply List.ext_getElem?
  intro j
  rw [List.getElem?_take]
  split
  · rename_i hj
    rw [List.getElem?_drop, hc]
    have hjl : j < (enc y).length := by rw [hsz]; exact hj
    rw [List.getElem?_eq_getElem hjl]
    exact flat_at hsz W k j y _ hl (List.getElem?_eq_getElem hjl)
  · rename_i hj
    rw [List.getElem?_eq_none (by rw [hsz]; omega)]
theorem flat_setL {α : Type} {enc : α → List V} {sz : Nat} (hsz : ∀ x, (enc x).length = sz) : ∀ (W : List α) (k : Nat) (x' : α), k < W.length → setL (W.flatMap enc) (k * sz) (enc x') = (W.set k x').flatMap enc
  | [], k, x', h => by simp at h
  | y :: W, 0, x', h => by
    simp only [setL, Nat.zero_mul, List.take_zero, List.nil_append, List.flatMap_cons, Nat.zero_add, List.set_cons_zero]
    rw [List.drop_append_of_le_length (by rw [hsz, hsz]; omega), List.drop_of_length_le (by rw [hsz, hsz]; omega), List.nil_append]
  | y :: W, k + 1, x', h => by
    have ih := flat_setL hsz W k x' (by simpa using h)
    simp only [setL] at ih ⊢
    rw [List.flatMap_cons, List.set_cons_succ, List.flatMap_cons, ← ih]
    have h1 : (k + 1) * sz = (enc y).length + k * sz := by rw [hsz, Nat.succ_mul]; omega
    rw [h1, List.take_append, List.take_of_length_le (by omega), Nat.add_sub_cancel_left, Nat.add_assoc, List.drop_append, List.drop_of_length_le (by omega), List.nil_append, Nat.add_sub_cancel_left, List.append_assoc, List.append_assoc, List.append_assoc]
theorem st_stores_flat {α : Type} {t : TypeId} {sz bt : Nat} {z : Value} {x y : Operand} {r k : Nat} {row : Row} {W : List α} {enc : α → List V} (x' : α) (hi : Inf c.P t sz bt z) (ho : o.op = .store t x y) (hd : o.dst = none) (hx : s.ev x = some (.ref r (k * sz))) (hy : s.ev y = some (.agg (enc x'))) (hr : fnd s.H r = some row) (hn : row.nil = false)
    (hc : row.cells = W.flatMap enc) (hsz : ∀ x, (enc x).length = sz) (hk : k < W.length) (hok : (V.agg (enc x')).ok = true) : Step c o s (fun s' => s' = { s with H := (r, { row with cells := (W.set k x').flatMap enc }) :: s.H }) := by
  refine st_store_any hi ho hd hx hy hr hn hok (hsz x') ?_ (by rw [hc]; exact flat_setL hsz W k x' hk)
  have : (W.flatMap enc).length = W.length * sz := flat_len hsz
  rw [hc, this]
  have h1 : (k + 1) * sz ≤ W.length * sz := Nat.mul_le_mul_right _ hk
  rw [Nat.succ_mul] at h1
  exact h1
end
end Go.Proofs.Ythlcginebeapdaa
