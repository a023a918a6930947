/- Sums, products, quotients with a name of their own; a call that works on objects of its caller at the end of a drawn region. -/
import Derived.Test.YthlcginebeapdaaAmHp
import Derived.Test.YthlcginebeapdaaAmFr
namespace Go.Proofs.Ythlcginebeapdaa
open Go.RowKit
set_option linter.unusedSimpArgs false
set_option linter.unusedVariables false
section
variable {c : Cx} {s : S} {o : Oper} {t t' : TypeId} {x y : Operand} {m n : Int}
theorem rp_addZ (z : Int) (ho : o.op = .binOp .add t x y t') (hx : s.ev x = some (.i m)) (hy : s.ev y = some (.i n)) (hz : m + n = z) (h : -9223372036854775808 ≤ z ∧ z ≤ 9223372036854775807) : RP c o s (.i z) := by subst hz; exact rp_add ho hx hy h
theorem rp_mulZ (z : Int) (ho : o.op = .binOp .mul t x y t') (hx : s.ev x = some (.i m)) (hy : s.ev y = some (.i n)) (hz : m * n = z) (h : -9223372036854775808 ≤ z ∧ z ≤ 9223372036854775807) : RP c o s (.i z) := by subst hz; exact rp_mul ho hx hy h
theorem rp_quoZ (z : Int) (ho : o.op = .binOp .quo t x y t') (hx : s.ev x = some (.i m)) (hy : s.ev y = some (.i n)) (hz : m / n = z) (h1 : 0 ≤ m ∧ m ≤ 9223372036854775807 ∧ 0 < n) : RP c o s (.i z) := by subst hz; exact rp_quo ho hx hy h1
theorem rp_remZ (z : Int) (ho : o.op = .binOp .rem t x y t') (hx : s.ev x = some (.i m)) (hy : s.ev y = some (.i n)) (hz : m % n = z) (h1 : 0 ≤ m ∧ 0 < n) : RP c o s (.i z) := by subst hz; exact rp_rem ho hx hy h1
end
section
variable {c : Cx} {s : S} {o : Oper} {Q : Exit → S → Prop} {L : List Oper} {need : Nat → Bool} {i : Nat} {r : List (Nat × Nat)}
theorem AF3.pc {P : Program} {f : FuncId} {args : List V} {H : List (Nat × Row)} {K : List V} {post : V → List (Nat × Row) → List V → Prop} {fx : Operand} {xs : Array Operand} {tys : Array TypeId} (hi : L[i]? = some o) (hn : need i = false) (l : List Nat) {ts : List V} (h : PC P f args H K post) (hg : o.guard = none) (hP : c.P = P) (ho : o.op = .call { callee := .value fx, args := xs, argTypes := tys }) (hfx : s.ev fx = some (.fn f [])) (hargs : xs.toList.map s.ev = args.map some)
    (hts : l.map (fun i => fnd s.T i) = ts.map some) (hH : s.H = H) (hK : ts ++ s.K = K) (hd : dok s o = true) (hN : ∀ v H' K', post v H' K' → AF3 c L.toArray Q need r (back s l o.dst v H' K')) : AF3 c L.toArray Q need ((i, 0) :: r) s :=
  AF3.step hi hg hn fun g a w hs K' Q' hK' => h c s o fx xs tys l ts hP ho hfx hargs hts hH hK hd g a w hs K' Q' fun g' s' a' w' ⟨v, H', K2, h1, h2⟩ h3 => hK' g' s' a' w' (by subst h2; exact hN _ _ _ h1) h3
end
end Go.Proofs.Ythlcginebeapdaa
