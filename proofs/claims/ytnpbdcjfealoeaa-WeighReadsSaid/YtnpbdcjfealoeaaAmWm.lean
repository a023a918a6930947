-- %hmode
/- Places as a map's keys. -/
import Derived.Test.YtnpbdcjfealoeaaAmHpW
import Derived.Test.YtnpbdcjfealoeaaAmK
namespace Go.Proofs.Ytnpbdcjfealoeaa
open Go.RowKit
set_option linter.unusedSimpArgs false
set_option linter.unusedVariables false
set_option maxRecDepth 100000

abbrev W3 := Int × Int × Int
abbrev encW (t : W3) : Value := .agg #[.int .i64 t.1, .int .i64 t.2.1, .int .i64 t.2.2]
theorem eqPl0 (a1 a2 a3 b1 b2 b3 : Int) (w : World) : (Op.equalIn 10000 155 (.agg #[.int .i64 a1, .int .i64 a2, .int .i64 a3]) (.agg #[.int .i64 b1, .int .i64 b2, .int .i64 b3])).run Try.prog w = .ok (a1 == b1 && (a2 == b2 && a3 == b3)) w := by
  simp [go_sem]
  by_cases h1 : a1 = b1 <;> by_cases h2 : a2 = b2 <;> by_cases h3 : a3 = b3 <;> simp [h1, h2, h3]
theorem eqPl (a b : W3) (w : World) : (Op.equal 155 (encW a) (encW b)).run Try.prog w = .ok (decide (a = b)) w := by
  obtain ⟨a1, a2, a3⟩ := a
  obtain ⟨b1, b2, b3⟩ := b
  refine (eqPl0 a1 a2 a3 b1 b2 b3 w).trans ?_
  congr 1
  rw [Bool.eq_iff_iff]
  simp
theorem checkPl (b : Bool) (a : W3) (w : World) : (Instr.checkKey b 10000 155 (encW a)).run Try.prog w = .ok () w := by
  have : ∀ n : Nat, (Instr.checkKey b (n + 2) 155 (encW a)).run Try.prog w = .ok () w := fun n => by
    simp [encW, Instr.checkKey, go_sem]
  exact this 9998
theorem askPl (a : W3) (w : World) : ∀ (l : List (W3 × Int)) (i j : Nat), (Instr.findAsking 155 (encW a) (((mrows encW l).zipIdx j).map fun x => ({ key := x.1.1, val := x.1.2, born := x.2 } : MapEntry)) i).run Try.prog w = .ok ((mfind l a i).map fun x => (x.1, .int .i64 x.2)) w
  | [], i, j => by simp [Instr.findAsking, mrows, mfind]
  | (k, v) :: l, i, j => by
    have ih := askPl a w l (i + 1) (j + 1)
    simp only [mrows, List.map_cons, List.zipIdx_cons, Instr.findAsking, Sem.run_bind, eqPl, Result.andThen_ok, mfind] at ih ⊢
    by_cases e : a = k
    · subst e; simp
    · simp only [e, decide_false, if_false]
      simpa [mrows] using ih
theorem keyOk155 : KeyOk Try.prog 155 encW := by
  refine ⟨checkPl, fun l a w => ?_, fun a => ?_⟩
  · have hnow : ∀ (l : List (W3 × Int)) (j : Nat), l ≠ [] → ∀ fs, Instr.findNow (.struct fs) (encW a) (((mrows encW l).zipIdx j).map fun x => ({ key := x.1.1, val := x.1.2, born := x.2 } : MapEntry)) 0 = none := by
      intro l j hl fs
      cases l with
      | nil => exact absurd rfl hl
      | cons x l => simp [mrows, List.zipIdx_cons, Instr.findNow, Instr.sameNow]
    simp only [Instr.findKey, Sem.run_bind, run_underlying Try.underlying155, Result.andThen_ok, ments, List.toList_toArray]
    by_cases hl : l = []
    · subst hl; simp [mrows, Instr.findNow, mfind]
    · rw [hnow l 0 hl]
      exact askPl a w l 0 0
  · have : ∀ n : Nat, Instr.sameBits (n + 2) (encW a) (encW a) = true := fun n => by simp [Instr.sameBits]
    exact this 9998
theorem keyE155 {w : World} {q : Nat → Prop} {g : Nat → Nat × Nat} {a b f : Int} {v : Value} (h : VRep w q g (.agg [.i a, .i b, .i f]) v) : v = encW (a, b, f) := by
  cases h with
  | agg _ cs hl h =>
    match cs, hl with
    | [x, y, z], _ =>
      rw [VRep.p_eq (h 0 _ _ rfl rfl), VRep.p_eq (h 1 _ _ rfl rfl), VRep.p_eq (h 2 _ _ rfl rfl)]
theorem mpsR_ints (l : List Int) : D.mpsR (l.map fun x => [D.p (.int .i64 x)]) = false := mpsR_map _ (fun _ => rfl) l
theorem mpsL_it (l : List It) : V.mpsL (l.flatMap itV) = false := mpsL_flat _ (fun _ => rfl) l
theorem upM_agg (r : Nat) (l : List (Value × Value)) (vs : List V) (h : V.mpsL vs = false) : upM r l (.agg vs) = .agg vs := by simp [upM, V.mps, h]
theorem upM_agg3 (r : Nat) (l : List (Value × Value)) (a b f : Value) : upM r l (.agg [.d (.p a), .d (.p b), .d (.p f)]) = .agg [.d (.p a), .d (.p b), .d (.p f)] := rfl
theorem upM_it3 (r : Nat) (l : List (Value × Value)) (a b f : Nat) : upM r l (.agg [V.n a, V.n b, V.n f]) = .agg [V.n a, V.n b, V.n f] := rfl
theorem upM_itT (r : Nat) (l : List (Value × Value)) (e : It) (n k : Nat) : upM r l (.agg (((itV e).drop k).take n)) = .agg (((itV e).drop k).take n) := upM_agg r l _ (V.mpsL_false.2 fun d hd => V.mpsL_false.1 (show V.mpsL (itV e) = false from rfl) d (List.mem_of_mem_drop (List.mem_of_mem_take hd)))
theorem upM_mV (r : Nat) (l : List (Value × Value)) (m : Mach) : upM r l (mV m) = mV m := upM_agg r l _ (by simp [V.mpsL, V.mps, D.mps, mpsR_sts])
end Go.Proofs.Ytnpbdcjfealoeaa
