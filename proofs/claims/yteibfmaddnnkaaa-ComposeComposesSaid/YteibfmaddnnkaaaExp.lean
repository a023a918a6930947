/- What two machines do together from a pair of states, as plain data. -/
import Derived.Test.YteibfmaddnnkaaaUni
namespace Go.Proofs.Yteibfmaddnnkaaa
open Go.RowKit
set_option linter.unusedSimpArgs false
set_option linter.unusedVariables false

structure Hp where
  i : Int
  o : Int
  w : Int
  a : Int
  b : Int
  f : Int
abbrev hpD (h : Hp) : List D := [.p (.int .i64 h.i), .p (.int .i64 h.o), .p (.int .i64 h.w), .p (.int .i64 h.a), .p (.int .i64 h.b), .p (.int .i64 h.f)]
abbrev hopsD (l : List Hp) : D := .sl 6 48 (l.map hpD)
abbrev hpV (h : Hp) : List V := (hpD h).map V.d

def meet (x y : Ar) (f : Int) : Bool := decide (x.o = y.i ∧ (x.o ≠ 0 ∨ f = 0))
def bothH (x y : Ar) : Hp := ⟨x.i, y.o, x.w + y.w, x.t, y.t, 0⟩
def innerH (x : Ar) (r : List Ar) (f : Int) : List Hp := (r.filter fun y => meet x y f).map (bothH x)
def loneH (x : Ar) (tb f : Int) : List Hp := if x.o = 0 ∧ f ≠ 2 then [⟨x.i, 0, x.w, x.t, tb, 1⟩] else []
def leftsH (l r : List Ar) (tb f : Int) : List Hp := l.flatMap fun x => innerH x r f ++ loneH x tb f
def restH (y : Ar) (ta f : Int) : List Hp := if y.i = 0 ∧ f ≠ 1 then [⟨0, y.o, y.w, ta, y.t, 2⟩] else []
def rightsH (r : List Ar) (ta f : Int) : List Hp := r.flatMap fun y => restH y ta f
def allH (l r : List Ar) (ta tb f : Int) : List Hp := leftsH l r tb f ++ rightsH r ta f
def overH (h : Hp) : Bool := decide (1000000000 < h.w)
def jnOver (a b : Int) : Prop := a ≠ 1000000001 ∧ b ≠ 1000000001 ∧ 1000000000 < a + b
instance (a b : Int) : Decidable (jnOver a b) := inferInstanceAs (Decidable (_ ∧ _))
def jn (a b : Int) : Int := if a = 1000000001 ∨ b = 1000000001 then 1000000001 else a + b
/-- What comes out: the end's cost, the hops, what is wrong. -/
def expX (x y : St) (ta tb f : Int) : Int × List Hp × Int :=
  if jnOver x.fin y.fin then (0, [], 4) else if (allH x.arcs y.arcs ta tb f).any overH then (0, [], 4) else (jn x.fin y.fin, allH x.arcs y.arcs ta tb f, 0)
def badT (m n : Mach) (ta tb f : Int) : Prop := ta < 0 ∨ m.states.length ≤ ta ∨ tb < 0 ∨ n.states.length ≤ tb ∨ f < 0 ∨ 2 < f
instance (m n : Mach) (ta tb f : Int) : Decidable (badT m n ta tb f) := inferInstanceAs (Decidable (_ ∨ _))
def expR (m n : Mach) (ta tb f : Int) : Int × List Hp × Int :=
  if twoE m n ≠ 0 then (0, [], twoE m n) else if badT m n ta tb f then (0, [], 13) else expX (m.states.getD ta.toNat ⟨0, []⟩) (n.states.getD tb.toNat ⟨0, []⟩) ta tb f

theorem innerH_snoc (x : Ar) (f : Int) {r : List Ar} {j : Nat} {y : Ar} (h : r[j]? = some y) : innerH x (r.take (j + 1)) f = innerH x (r.take j) f ++ if meet x y f = true then [bothH x y] else [] := by
  rw [take_snoc h]
  unfold innerH
  rw [List.filter_append, List.map_append]
  cases e : meet x y f <;> simp [e]
theorem leftsH_snoc (r : List Ar) (tb f : Int) {l : List Ar} {i : Nat} {x : Ar} (h : l[i]? = some x) : leftsH (l.take (i + 1)) r tb f = leftsH (l.take i) r tb f ++ (innerH x r f ++ loneH x tb f) := by
  rw [take_snoc h]
  simp [leftsH]
theorem rightsH_snoc (ta f : Int) {r : List Ar} {j : Nat} {y : Ar} (h : r[j]? = some y) : rightsH (r.take (j + 1)) ta f = rightsH (r.take j) ta f ++ restH y ta f := by
  rw [take_snoc h]
  simp [rightsH]
theorem innerH_len (x : Ar) (r : List Ar) (f : Int) : (innerH x r f).length ≤ r.length := by
  unfold innerH
  rw [List.length_map]
  exact List.length_filter_le _ _
theorem loneH_len (x : Ar) (tb f : Int) : (loneH x tb f).length ≤ 1 := by unfold loneH; split <;> simp
theorem restH_len (y : Ar) (ta f : Int) : (restH y ta f).length ≤ 1 := by unfold restH; split <;> simp
theorem leftsH_len (r : List Ar) (tb f : Int) (hr : r.length ≤ 400) : ∀ l : List Ar, (leftsH l r tb f).length ≤ 401 * l.length
  | [] => by simp [leftsH]
  | x :: l => by
    have h1 := leftsH_len r tb f hr l
    have h2 := innerH_len x r f
    have h3 := loneH_len x tb f
    have e : leftsH (x :: l) r tb f = (innerH x r f ++ loneH x tb f) ++ leftsH l r tb f := by simp [leftsH]
    rw [e, List.length_append, List.length_append, List.length_cons]
    omega
theorem rightsH_len (ta f : Int) : ∀ r : List Ar, (rightsH r ta f).length ≤ r.length
  | [] => by simp [rightsH]
  | y :: r => by
    have h1 := rightsH_len ta f r
    have h2 := restH_len y ta f
    have e : rightsH (y :: r) ta f = restH y ta f ++ rightsH r ta f := by simp [rightsH]
    rw [e, List.length_append, List.length_cons]
    omega
/-- A hop of the left arcs is among all. -/
theorem mem_all_left {l r : List Ar} {ta tb f : Int} {x y : Ar} (hx : x ∈ l) (hy : y ∈ r) (h : meet x y f = true) : bothH x y ∈ allH l r ta tb f := by
  unfold allH leftsH innerH
  refine List.mem_append_left _ (List.mem_flatMap.2 ⟨x, hx, List.mem_append_left _ (List.mem_map.2 ⟨y, List.mem_filter.2 ⟨hy, h⟩, rfl⟩)⟩)
theorem any_over {l r : List Ar} {ta tb f : Int} {x y : Ar} (hx : x ∈ l) (hy : y ∈ r) (h : meet x y f = true) (ho : 1000000000 < x.w + y.w) : (allH l r ta tb f).any overH = true :=
  List.any_eq_true.2 ⟨_, mem_all_left hx hy h, by simp [overH, bothH, ho]⟩
end Go.Proofs.Yteibfmaddnnkaaa
