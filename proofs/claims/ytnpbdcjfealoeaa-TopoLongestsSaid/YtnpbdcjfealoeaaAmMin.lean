/- min and max of two. -/
import Derived.Test.YtnpbdcjfealoeaaAmO
import Derived.Test.YtnpbdcjfealoeaaLong
namespace Go.Proofs.Ytnpbdcjfealoeaa
open Go.RowKit
set_option linter.unusedSimpArgs false
set_option linter.unusedVariables false
section
variable {c : Cx} {s : S} {o : Oper}
theorem rp_min {t : Array TypeId} {x y : Operand} {m n k : Int} (ho : o.op = .call { callee := .builtin .min, args := #[x, y], argTypes := t }) (hx : s.ev x = some (.i m)) (hy : s.ev y = some (.i n)) (h : Mn m n k) : RP c o s (.i k) := fun g a w hs => by
  refine ⟨.int .i64 k, .d _ _ (.p _), fun w' => ?_⟩
  have h1 := VRep.p_eq (hs.ev hx)
  have h2 := VRep.p_eq (hs.ev hy)
  simp [execOp, ho, resolve, invoke, builtin, h1, h2, Builtin.min_, Builtin.min2, h.h]
theorem rp_max {t : Array TypeId} {x y : Operand} {m n k : Int} (ho : o.op = .call { callee := .builtin .max, args := #[x, y], argTypes := t }) (hx : s.ev x = some (.i m)) (hy : s.ev y = some (.i n)) (h : Mx m n k) : RP c o s (.i k) := fun g a w hs => by
  refine ⟨.int .i64 k, .d _ _ (.p _), fun w' => ?_⟩
  have h1 := VRep.p_eq (hs.ev hx)
  have h2 := VRep.p_eq (hs.ev hy)
  simp [execOp, ho, resolve, invoke, builtin, h1, h2, Builtin.max_, Builtin.max2, h.h]
end
end Go.Proofs.Ytnpbdcjfealoeaa
