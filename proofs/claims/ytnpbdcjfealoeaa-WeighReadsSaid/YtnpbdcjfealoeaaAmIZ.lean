/- Sums, products, quotients with a name of their own. -/
import Derived.Test.YtnpbdcjfealoeaaAmHp
namespace Go.Proofs.Ytnpbdcjfealoeaa
open Go.RowKit
set_option linter.unusedSimpArgs false
set_option linter.unusedVariables false
section
variable {c : Cx} {s : S} {o : Oper} {t t' : TypeId} {x y : Operand} {m n : Int}
theorem rp_addZ (z : Int) (ho : o.op = .binOp .add t x y t') (hx : s.ev x = some (.i m)) (hy : s.ev y = some (.i n)) (hz : m + n = z) (h : -9223372036854775808 ≤ z ∧ z ≤ 9223372036854775807) : RP c o s (.i z) := by subst hz; exact rp_add ho hx hy h
theorem rp_mulZ (z : Int) (ho : o.op = .binOp .mul t x y t') (hx : s.ev x = some (.i m)) (hy : s.ev y = some (.i n)) (hz : m * n = z) (h : -9223372036854775808 ≤ z ∧ z ≤ 9223372036854775807) : RP c o s (.i z) := by subst hz; exact rp_mul ho hx hy h
theorem rp_quoZ (z : Int) (ho : o.op = .binOp .quo t x y t') (hx : s.ev x = some (.i m)) (hy : s.ev y = some (.i n)) (hz : m / n = z) (h1 : 0 ≤ m ∧ m ≤ 9223372036854775807 ∧ 0 < n) : RP c o s (.i z) := by subst hz; exact rp_quo ho hx hy h1
theorem rp_remZ (z : Int) (ho : o.op = .binOp .rem t x y t') (hx : s.ev x = some (.i m)) (hy : s.ev y = some (.i n)) (hz : m % n = z) (h1 : 0 ≤ m ∧ 0 < n) : RP c o s (.i z) := by subst hz; exact rp_rem ho hx hy h1
end
end Go.Proofs.Ytnpbdcjfealoeaa
