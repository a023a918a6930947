/- weight.Read and the document's one. -/
import Derived.Test.YthflidjnlnmbiaaDoorAmNumR
import Derived.Test.YthflidjnlnmbiaaDoorShelfR
import Derived.Test.YthflidjnlnmbiaaDoorAmB
import Derived.WideShapes
import Derived.Stop.IfaceNil
-- %strn AmH
namespace Go.Proofs.YthflidjnlnmbiaaDoor
open Go.RowKit
set_option linter.unusedSimpArgs false
set_option linter.unusedVariables false
set_option maxRecDepth 100000

theorem ba_loop (bs : ByteArray) : ∀ (m i : Nat) (r : List UInt8), bs.size - i = m → ByteArray.toList.loop bs i r = r.reverse ++ bs.data.toList.drop i := by
  intro m
  induction m with
  | zero =>
    intro i r h
    rw [ByteArray.toList.loop]
    have : ¬ i < bs.size := by omega
    rw [if_neg this, List.drop_eq_nil_of_le (by have : bs.data.toList.length = bs.size := Array.length_toList; omega), List.append_nil]
  | succ m ih =>
    intro i r h
    rw [ByteArray.toList.loop]
    have hi : i < bs.size := by omega
    have hl : bs.data.toList.length = bs.size := Array.length_toList
    rw [if_pos hi, ih (i + 1) _ (by omega), List.drop_eq_getElem_cons (by omega : i < bs.data.toList.length)]
    have : bs.get! i = bs.data.toList[i] := by
      simp [ByteArray.get!]
      rw [getElem!_pos bs.data i (by simpa using hi)]
    rw [this]
    simp
theorem ba_toList (a : ByteArray) : a.toList = a.data.toList := by
  unfold ByteArray.toList
  rw [ba_loop a a.size 0 [] (by omega)]
  simp
theorem ba_ne {a b : ByteArray} (h : a.data.toList ≠ b.data.toList) : (a.toList == b.toList) = false := by
  rw [beq_eq_false_iff_ne, ba_toList, ba_toList]; exact h
section
variable {c : Cx} {s : S} {o : Oper}
theorem rp_eqlsF {t t' : TypeId} {x y : Operand} {a b : ByteArray} (ho : o.op = .binOp .eql t x y t') (hx : s.ev x = some (.s a)) (hy : s.ev y = some (.s b)) (h : a.data.toList ≠ b.data.toList) : RP c o s (.b false) := rp_b (rp_eqls ho hx hy) (ba_ne h)
theorem rp_neqsT {t t' : TypeId} {x y : Operand} {a b : ByteArray} (ho : o.op = .binOp .neq t x y t') (hx : s.ev x = some (.s a)) (hy : s.ev y = some (.s b)) (h : a.data.toList ≠ b.data.toList) : RP c o s (.b true) := rp_b (rp_neqs ho hx hy) (by rw [ba_ne h]; rfl)
theorem rp_neqI0 {t t' : TypeId} {x : Operand} {u : Value} {ms : Array (String × TypeId)} (hu : c.P.underlying t = some (.interface ms)) (ho : o.op = .binOp .neq t x (.const u) t') (hx : s.ev x = some (.d (.p .nilIface))) (hy : s.ev (.const u) = some (.d (.p .nilIface))) : RP c o s (.b false) :=
  rp_bin ho hx hy fun w => by
    have h1 : c.P.isIface t = true := by simp [Program.isIface, hu]
    have h2 := run_neq_nil_nil_at (P := c.P) w t h1
    simp [eqGuard, h2]
end
/-- A contract of the library's that asks nothing of memory. -/
theorem Fn.ofCalls {P : Program} {f : FuncId} {xs : List Value} {y : Value} {args : List V} {v : V} (h : ∀ w, Calls P f xs.toArray w fun e w' => e = .returned y ∧ Below w.heap.size w w') (ha : ∀ w q g zs, VReps w q g args zs → zs = xs) (hv : ∀ w q g, VRep w q g v y) (hp : v.pure) : Fn P f args (fun v' => v' = v) := by
  intro w out g zs ho hz
  obtain rfl := ha _ _ _ _ hz
  refine (h w).mono ?_
  rintro e w' ⟨rfl, hb⟩
  exact ⟨v, y, rfl, rfl, hp, hv _ _ _, hb⟩
theorem reps_s1 {a : ByteArray} {w : World} {q : Nat → Prop} {g : Nat → Nat × Nat} {zs : List Value} (h : VReps w q g [.s a] zs) : zs = [.string a] := by
  obtain ⟨h1, h2⟩ := h
  match zs, h1, h2 with
  | [z], _, h2 => rw [VRep.p_eq (h2 0 _ z rfl rfl)]
theorem reps_s2 {a b : ByteArray} {w : World} {q : Nat → Prop} {g : Nat → Nat × Nat} {zs : List Value} (h : VReps w q g [.s a, .s b] zs) : zs = [.string a, .string b] := by
  obtain ⟨h1, h2⟩ := h
  match zs, h1, h2 with
  | [z, y], _, h2 => rw [VRep.p_eq (h2 0 _ z rfl rfl), VRep.p_eq (h2 1 _ y rfl rfl)]
def digs : List UInt8 := [48, 49, 50, 51, 52, 53, 54, 55, 56, 57]
theorem am_Trim (str : ByteArray) (hs : str.size ≤ 9223372036854775807) : Fn Tryd.prog 23 [.s str, .s ⟨#[48, 49, 50, 51, 52, 53, 54, 55, 56, 57]⟩] (fun v => v = .s ⟨(Lib.trimS str.data.toList digs).toArray⟩) :=
  Fn.ofCalls (fun w => trim_call str w hs) (fun _ _ _ _ h => reps_s2 h) (fun _ _ _ => .d _ _ (.p _)) (by simp [V.pure, V.has, V.hasL])
theorem am_Atoi (str : ByteArray) (n : Int) (hl : str.size ≤ 18) (h : Lib.atoi str.data.toList = some n) : Fn Tryd.prog 24 [.s str] (fun v => v = .tup [.i n, .d (.p .nilIface)]) :=
  Fn.ofCalls (xs := [.string str]) (y := .tuple #[.int .i64 n, .nilIface]) (fun w => (atoi_call str n hl h w).mono fun e w' ⟨he, t, hw⟩ => ⟨he, by rw [hw]; exact Lib.bytesWorld_below _ _ _⟩) (fun _ _ _ _ h => reps_s1 h) (fun _ _ _ => .tup _ _ rfl fun j u z hu hz => by
    match j, hu with
    | 0, hu => simp at hu hz; subst hu hz; exact .d _ _ (.p _)
    | 1, hu => simp at hu hz; subst hu hz; exact .d _ _ (.p _)
    | j + 2, hu => simp at hu) (by simp [V.pure, V.has, V.hasL])
end Go.Proofs.YthflidjnlnmbiaaDoor
