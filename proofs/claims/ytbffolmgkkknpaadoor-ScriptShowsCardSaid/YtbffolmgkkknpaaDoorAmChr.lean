/- Bytes of texts, and texts held against each other. -/
import Derived.Test.YtbffolmgkkknpaaDoorAmByt
import Derived.Test.YtbffolmgkkknpaaDoorAmH
import Derived.Test.YtbffolmgkkknpaaDoorAmB
-- %strn
namespace Go.Proofs.YtbffolmgkkknpaaDoor
open Go.RowKit
set_option linter.unusedSimpArgs false
set_option linter.unusedVariables false
set_option maxRecDepth 100000

theorem ba_loop (bs : ByteArray) : ∀ (m i : Nat) (r : List UInt8), bs.size - i = m → ByteArray.toList.loop bs i r = r.reverse ++ bs.data.toList.drop i := by
 intro m
 induction m with
 | zero =>
  intro i r h
  rw [ByteArray.toList.loop]
  have : ¬ i < bs.size := by omega
  rw [if_neg this, List.drop_eq_nil_of_le (by have : bs.data.toList.length = bs.size := Array.length_toList; omega), List.append_nil]
 | succ m ih =>
  intro i r h
  rw [ByteArray.toList.loop]
  have hi : i < bs.size := by omega
  have hl : bs.data.toList.length = bs.size := Array.length_toList
  rw [if_pos hi, ih (i + 1) _ (by omega), List.drop_eq_getElem_cons (by omega : i < bs.data.toList.length)]
  have : bs.get! i = bs.data.toList[i] := by
   simp [ByteArray.get!]
   rw [getElem!_pos bs.data i (by simpa using hi)]
  rw [this]
  simp
theorem ba_toList (a : ByteArray) : a.toList = a.data.toList := by
 unfold ByteArray.toList
 rw [ba_loop a a.size 0 [] (by omega)]
 simp
theorem ba_ne {a b : ByteArray} (h : a.data.toList ≠ b.data.toList) : (a.toList == b.toList) = false := by
 rw [beq_eq_false_iff_ne, ba_toList, ba_toList]; exact h
section
variable {c : Cx} {s : S} {o : Oper}
theorem rp_eqlsF {t t' : TypeId} {x y : Operand} {a b : ByteArray} (ho : o.op = .binOp .eql t x y t') (hx : s.ev x = some (.s a)) (hy : s.ev y = some (.s b)) (h : a.data.toList ≠ b.data.toList) : RP c o s (.b false) := rp_b (rp_eqls ho hx hy) (ba_ne h)
theorem rp_neqsT {t t' : TypeId} {x y : Operand} {a b : ByteArray} (ho : o.op = .binOp .neq t x y t') (hx : s.ev x = some (.s a)) (hy : s.ev y = some (.s b)) (h : a.data.toList ≠ b.data.toList) : RP c o s (.b true) := rp_b (rp_neqs ho hx hy) (by rw [ba_ne h]; rfl)
end
section
variable {c : Cx} {s : S} {o : Oper}
theorem rp_index_str {t : TypeId} {x y : Operand} {str : ByteArray} {k : Nat} {n' : Int} {kd : IntKind} {b : UInt8} (hu : c.P.underlying t = some .string) (ho : o.op = .index t x y) (hx : s.ev x = some (.s str)) (hy : s.ev y = some (.d (.p (.int kd n')))) (hk : n' = (k : Int)) (hb : str.data.toList[k]? = some b) : RP c o s (.d (.p (.int .u8 (b.toNat : Int)))) := fun g a w hs => by
 refine ⟨.int .u8 (b.toNat : Int), .d _ _ (.p _), fun w' => ?_⟩
 subst hk
 obtain ⟨hlt, he⟩ := List.getElem?_eq_some_iff.1 hb
 have hlt2 : k < str.size := by
  have h : str.data.toList.length = str.size := Array.length_toList
  omega
 have e : (str[k]'hlt2) = b := by rw [← he]; rfl
 have hr : (Instr.index t (.string str) (.int kd (k : Int))).run c.P w' = .ok (.int .u8 (b.toNat : Int)) w' := by
  rw [run_index_string w' t str kd (k : Int) hu, dif_pos ⟨by omega, by omega⟩]
  simp only [Int.toNat_natCast, e]
 simp only [execOp, ho, VRep.p_eq (hs.ev hx), VRep.p_eq (hs.ev hy), Sem.run_bind, hr, Result.andThen_ok]
 rfl
end
/-- A contract of the library's that asks nothing of memory. -/
theorem Fn.ofCalls {P : Program} {f : FuncId} {xs : List Value} {y : Value} {args : List V} {v : V} (h : ∀ w, Calls P f xs.toArray w fun e w' => e = .returned y ∧ Below w.heap.size w w') (ha : ∀ w q g zs, VReps w q g args zs → zs = xs) (hv : ∀ w q g, VRep w q g v y) (hp : v.pure) : Fn P f args (fun v' => v' = v) := by
 intro w out g zs ho hz
 obtain rfl := ha _ _ _ _ hz
 refine (h w).mono ?_
 rintro e w' ⟨rfl, hb⟩
 exact ⟨v, y, rfl, rfl, hp, hv _ _ _, hb⟩
theorem reps_s1 {a : ByteArray} {w : World} {q : Nat → Prop} {g : Nat → Nat × Nat} {zs : List Value} (h : VReps w q g [.s a] zs) : zs = [.string a] := by
 obtain ⟨h1, h2⟩ := h
 match zs, h1, h2 with
 | [z], _, h2 => rw [VRep.p_eq (h2 0 _ z rfl rfl)]
theorem am_Digit (b : UInt8) : Fn Tryd.prog 58 [.d (.p (.int .u8 (b.toNat : Int)))] (fun v => v = .b (decide (48 ≤ b.toNat ∧ b.toNat ≤ 57))) := by
 by_cases h1 : 48 ≤ b.toNat
 ·by_cases h2 : b.toNat ≤ 57
  ·refine Fn.intro (n := 9) ⟨Tryd.func58, rfl, rfl, rfl, rfl⟩ (by simp [V.pure, V.has, V.hasL]) (by simp) fun w0 out => ?_
   refine AW.seq ?_
   refine AW.region ?_
   refine AL.rp rfl rfl (rp_assign rfl rfl) ?_
   refine AL.nil ?_
   try simp only [thenS, S.put, enum, List.nil_append, List.cons_append, List.append_nil, Nat.zero_add, Nat.reduceAdd]
   refine AW.seq ?_
   refine AW.region ?_
   refine AL.rp rfl rfl (rp_move rfl rfl) ?_
   (first | (refine AL.rp rfl rfl (rp_geqT rfl rfl rfl (by first | assumption | omega | (dsimp only; omega))) ?_) | (refine AL.rp rfl rfl (rp_geqF rfl rfl rfl (by first | assumption | omega | (dsimp only; omega))) ?_) | (refine AL.rp rfl rfl (rp_geq rfl rfl rfl) ?_))
   refine AL.rp rfl rfl (rp_move rfl rfl) ?_
   (first | (refine AL.noV rfl rfl rfl rfl ?_) | (refine AL.noU rfl ⟨_, rfl, rfl⟩ rfl ?_) | (refine AL.rpy rfl rfl rfl (rp_move rfl rfl) ?_))
   (first | (refine AL.noV rfl rfl rfl rfl ?_) | (refine AL.noU rfl ⟨_, rfl, rfl⟩ rfl ?_) | (refine AL.rpy rfl rfl rfl (rp_leqT rfl rfl rfl (by first | assumption | omega | (dsimp only; omega))) ?_) | (refine AL.rpy rfl rfl rfl (rp_leqF rfl rfl rfl (by first | assumption | omega | (dsimp only; omega))) ?_) | (refine AL.rpy rfl rfl rfl (rp_leq rfl rfl rfl) ?_))
   refine AL.rp rfl rfl (rp_pick rfl rfl rfl) ?_
   refine AL.rp rfl rfl (rp_assign rfl rfl) ?_
   refine AL.nil ?_
   try simp only [thenS, S.put]
   refine AW.ret ?_
   exact ⟨[_], ⟨rfl, trivial⟩, by simp [h1, h2, tupOf], by simp [tupOf, V.pure, V.has, V.hasL]⟩
  ·refine Fn.intro (n := 9) ⟨Tryd.func58, rfl, rfl, rfl, rfl⟩ (by simp [V.pure, V.has, V.hasL]) (by simp) fun w0 out => ?_
   refine AW.seq ?_
   refine AW.region ?_
   refine AL.rp rfl rfl (rp_assign rfl rfl) ?_
   refine AL.nil ?_
   try simp only [thenS, S.put, enum, List.nil_append, List.cons_append, List.append_nil, Nat.zero_add, Nat.reduceAdd]
   refine AW.seq ?_
   refine AW.region ?_
   refine AL.rp rfl rfl (rp_move rfl rfl) ?_
   (first | (refine AL.rp rfl rfl (rp_geqT rfl rfl rfl (by first | assumption | omega | (dsimp only; omega))) ?_) | (refine AL.rp rfl rfl (rp_geqF rfl rfl rfl (by first | assumption | omega | (dsimp only; omega))) ?_) | (refine AL.rp rfl rfl (rp_geq rfl rfl rfl) ?_))
   refine AL.rp rfl rfl (rp_move rfl rfl) ?_
   (first | (refine AL.noV rfl rfl rfl rfl ?_) | (refine AL.noU rfl ⟨_, rfl, rfl⟩ rfl ?_) | (refine AL.rpy rfl rfl rfl (rp_move rfl rfl) ?_))
   (first | (refine AL.noV rfl rfl rfl rfl ?_) | (refine AL.noU rfl ⟨_, rfl, rfl⟩ rfl ?_) | (refine AL.rpy rfl rfl rfl (rp_leqT rfl rfl rfl (by first | assumption | omega | (dsimp only; omega))) ?_) | (refine AL.rpy rfl rfl rfl (rp_leqF rfl rfl rfl (by first | assumption | omega | (dsimp only; omega))) ?_) | (refine AL.rpy rfl rfl rfl (rp_leq rfl rfl rfl) ?_))
   refine AL.rp rfl rfl (rp_pick rfl rfl rfl) ?_
   refine AL.rp rfl rfl (rp_assign rfl rfl) ?_
   refine AL.nil ?_
   try simp only [thenS, S.put]
   refine AW.ret ?_
   exact ⟨[_], ⟨rfl, trivial⟩, by simp [h1, h2, tupOf], by simp [tupOf, V.pure, V.has, V.hasL]⟩
 ·refine Fn.intro (n := 9) ⟨Tryd.func58, rfl, rfl, rfl, rfl⟩ (by simp [V.pure, V.has, V.hasL]) (by simp) fun w0 out => ?_
  refine AW.seq ?_
  refine AW.region ?_
  refine AL.rp rfl rfl (rp_assign rfl rfl) ?_
  refine AL.nil ?_
  try simp only [thenS, S.put, enum, List.nil_append, List.cons_append, List.append_nil, Nat.zero_add, Nat.reduceAdd]
  refine AW.seq ?_
  refine AW.region ?_
  refine AL.rp rfl rfl (rp_move rfl rfl) ?_
  (first | (refine AL.rp rfl rfl (rp_geqT rfl rfl rfl (by first | assumption | omega | (dsimp only; omega))) ?_) | (refine AL.rp rfl rfl (rp_geqF rfl rfl rfl (by first | assumption | omega | (dsimp only; omega))) ?_) | (refine AL.rp rfl rfl (rp_geq rfl rfl rfl) ?_))
  refine AL.rp rfl rfl (rp_move rfl rfl) ?_
  (first | (refine AL.noV rfl rfl rfl rfl ?_) | (refine AL.noU rfl ⟨_, rfl, rfl⟩ rfl ?_) | (refine AL.rpy rfl rfl rfl (rp_move rfl rfl) ?_))
  (first | (refine AL.noV rfl rfl rfl rfl ?_) | (refine AL.noU rfl ⟨_, rfl, rfl⟩ rfl ?_) | (refine AL.rpy rfl rfl rfl (rp_leqT rfl rfl rfl (by first | assumption | omega | (dsimp only; omega))) ?_) | (refine AL.rpy rfl rfl rfl (rp_leqF rfl rfl rfl (by first | assumption | omega | (dsimp only; omega))) ?_) | (refine AL.rpy rfl rfl rfl (rp_leq rfl rfl rfl) ?_))
  refine AL.rp rfl rfl (rp_pick rfl rfl rfl) ?_
  refine AL.rp rfl rfl (rp_assign rfl rfl) ?_
  refine AL.nil ?_
  try simp only [thenS, S.put]
  refine AW.ret ?_
  exact ⟨[_], ⟨rfl, trivial⟩, by simp [h1, tupOf], by simp [tupOf, V.pure, V.has, V.hasL]⟩
end Go.Proofs.YtbffolmgkkknpaaDoor
