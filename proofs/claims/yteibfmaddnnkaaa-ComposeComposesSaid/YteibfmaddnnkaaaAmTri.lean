/- Triples as a map's keys. -/
import Derived.Test.YteibfmaddnnkaaaComp
import Derived.Test.YteibfmaddnnkaaaAmB
import Derived.Test.YteibfmaddnnkaaaAmW
namespace Go.Proofs.Yteibfmaddnnkaaa
open Go.RowKit
set_option linter.unusedSimpArgs false
set_option linter.unusedVariables false
set_option maxRecDepth 100000

abbrev encT (t : T3) : Value := .agg #[.int .i64 t.1, .int .i64 t.2.1, .int .i64 t.2.2]
abbrev tmap (L : List (T3 × Int)) : List (Value × Value) := mrows encT L
abbrev t3D (t : T3) : List D := [.p (.int .i64 t.1), .p (.int .i64 t.2.1), .p (.int .i64 t.2.2)]
abbrev t3V (t : T3) : List V := (t3D t).map V.d
theorem eqT0 (a1 a2 a3 b1 b2 b3 : Int) (w : World) : (Op.equalIn 10000 77 (.agg #[.int .i64 a1, .int .i64 a2, .int .i64 a3]) (.agg #[.int .i64 b1, .int .i64 b2, .int .i64 b3])).run Try.prog w = .ok (a1 == b1 && (a2 == b2 && a3 == b3)) w := by
  simp [go_sem]
  by_cases h1 : a1 = b1 <;> by_cases h2 : a2 = b2 <;> by_cases h3 : a3 = b3 <;> simp [h1, h2, h3]
theorem eqT (a b : T3) (w : World) : (Op.equal 77 (encT a) (encT b)).run Try.prog w = .ok (decide (a = b)) w := by
  obtain ⟨a1, a2, a3⟩ := a
  obtain ⟨b1, b2, b3⟩ := b
  refine (eqT0 a1 a2 a3 b1 b2 b3 w).trans ?_
  congr 1
  rw [Bool.eq_iff_iff]
  simp
theorem checkT (b : Bool) (a : T3) (w : World) : (Instr.checkKey b 10000 77 (encT a)).run Try.prog w = .ok () w := by
  have : ∀ n : Nat, (Instr.checkKey b (n + 2) 77 (encT a)).run Try.prog w = .ok () w := fun n => by
    simp [encT, Instr.checkKey, go_sem]
  exact this 9998
theorem askT (a : T3) (w : World) : ∀ (l : List (T3 × Int)) (i j : Nat), (Instr.findAsking 77 (encT a) (((tmap l).zipIdx j).map fun x => ({ key := x.1.1, val := x.1.2, born := x.2 } : MapEntry)) i).run Try.prog w = .ok ((mfind l a i).map fun x => (x.1, .int .i64 x.2)) w
  | [], i, j => by simp [Instr.findAsking, mrows, mfind]
  | (k, v) :: l, i, j => by
    have ih := askT a w l (i + 1) (j + 1)
    simp only [mrows, List.map_cons, List.zipIdx_cons, Instr.findAsking, Sem.run_bind, eqT, Result.andThen_ok, mfind] at ih ⊢
    by_cases e : a = k
    · subst e; simp
    · simp only [e, decide_false, if_false]
      simpa [mrows] using ih
theorem keyOk77 : KeyOk Try.prog 77 encT := by
  refine ⟨checkT, fun l a w => ?_, fun a => ?_⟩
  · have hnow : ∀ (l : List (T3 × Int)) (j : Nat), l ≠ [] → ∀ fs, Instr.findNow (.struct fs) (encT a) (((tmap l).zipIdx j).map fun x => ({ key := x.1.1, val := x.1.2, born := x.2 } : MapEntry)) 0 = none := by
      intro l j hl fs
      cases l with
      | nil => exact absurd rfl hl
      | cons x l => simp [mrows, List.zipIdx_cons, Instr.findNow, Instr.sameNow]
    simp only [Instr.findKey, Sem.run_bind, run_underlying Try.underlying77, Result.andThen_ok, ments, List.toList_toArray]
    by_cases hl : l = []
    · subst hl; simp [mrows, Instr.findNow, mfind]
    · rw [hnow l 0 hl]
      exact askT a w l 0 0
  · have : ∀ n : Nat, Instr.sameBits (n + 2) (encT a) (encT a) = true := fun n => by simp [Instr.sameBits]
    exact this 9998
theorem keyE77 {w : World} {q : Nat → Prop} {g : Nat → Nat × Nat} {a b f : Int} {v : Value} (h : VRep w q g (.agg [.i a, .i b, .i f]) v) : v = encT (a, b, f) := by
  cases h with
  | agg _ cs hl h =>
    match cs, hl with
    | [x, y, z], _ =>
      rw [VRep.p_eq (h 0 _ _ rfl rfl), VRep.p_eq (h 1 _ _ rfl rfl), VRep.p_eq (h 2 _ _ rfl rfl)]
theorem mpsR_hps (l : List Hp) : D.mpsR (l.map hpD) = false := mpsR_map _ (fun _ => rfl) l
theorem mpsL_t3 (l : List T3) : V.mpsL (l.flatMap t3V) = false := mpsL_flat _ (fun _ => rfl) l
theorem mpsL_st2 (l : List St) : V.mpsL (l.flatMap stV2) = false := mpsL_flat _ (fun x => by simp [stD, V.mpsL, V.mps, D.mps, mpsR_ars]) l
theorem mpsL_ar2 (l : List Ar) : V.mpsL (l.flatMap arV2) = false := mpsL_flat _ (fun _ => rfl) l
theorem upM_agg (r : Nat) (l : List (Value × Value)) (vs : List V) (h : V.mpsL vs = false) : upM r l (.agg vs) = .agg vs := by simp [upM, V.mps, h]
theorem upM_agg3 (r : Nat) (l : List (Value × Value)) (a b f : Value) : upM r l (.agg [.d (.p a), .d (.p b), .d (.p f)]) = .agg [.d (.p a), .d (.p b), .d (.p f)] := rfl
theorem upM_ad (r : Nat) (l : List (Value × Value)) (ds : List D) (h : D.mpsL ds = false) : upM r l (.ad ds) = .ad ds := by simp [upM, V.mps, h]
theorem upM_aggTD (r : Nat) (l : List (Value × Value)) (vs : List V) (n k : Nat) (h : V.mpsL vs = false) : upM r l (.agg ((vs.drop k).take n)) = .agg ((vs.drop k).take n) :=
  upM_agg r l _ (V.mpsL_false.2 fun d hd => V.mpsL_false.1 h d (List.mem_of_mem_drop (List.mem_of_mem_take hd)))
theorem upM_mV (r : Nat) (l : List (Value × Value)) (m : Mach) : upM r l (mV m) = mV m := upM_agg r l _ (by simp [V.mpsL, V.mps, D.mps, mpsR_sts])
section
variable {c : Cx} {s : S} {o : Oper}
theorem rd_loads_flat {α : Type} {t : TypeId} {d : TypeDesc} {x : Operand} {r k sz bt : Nat} {z : Value} {row : Row} {W : List α} {enc : α → List V} {y : α} (hu : c.P.underlying t = some d) (hd : isAggD d = true) (hi : Inf c.P t sz bt z) (ho : o.op = .load t x) (hx : s.ev x = some (.ref r (k * sz))) (hr : fnd s.H r = some row) (hn : row.nil = false)
    (hc : row.cells = W.flatMap enc) (hsz : ∀ x, (enc x).length = sz) (hl : W[k]? = some y) : RD c o s (.agg (enc y)) := by
  refine rd_loads_ref hu hd hi ho hx hr hn ?_ (hsz y)
  apply List.ext_getElem?
  intro j
  rw [List.getElem?_take]
  split
  · rename_i hj
    rw [List.getElem?_drop, hc]
    have hjl : j < (enc y).length := by rw [hsz]; exact hj
    rw [List.getElem?_eq_getElem hjl]
    exact flat_at hsz W k j y _ hl (List.getElem?_eq_getElem hjl)
  · rename_i hj
    rw [List.getElem?_eq_none (by rw [hsz]; omega)]
theorem st_insert {K : Type} [DecidableEq K] {enc : K → Value} {t k e : TypeId} {x y z : Operand} {r N : Nat} {l : List (K × Int)} {key : K} {v : Int} (hk : KeyOk c.P k enc) (hu : c.P.underlying t = some (.map k e)) (ho : o.op = .insert t x y z) (hd : o.dst = none) (hx : s.ev x = some (.mp r N (mrows enc l))) (hy : ∀ g a w, Sim c g s a w → a.eval y = enc key) (hz : s.ev z = some (.i v))
    (hN : N = c.w0.heap.size) (hH : s.H.all (fun x => !V.mpsL x.2.cells) = true) (hK : V.mpsL s.K = false) : Step c o s (fun s' => s' = ⟨s.n, s.T.map (fun x => (x.1, upM r (mrows enc (mput l key v)) x.2)), s.H, s.K⟩) := by
  have key := st_mapUpdate (o := { o with op := .mapUpdate t x y z }) hk hu rfl hd hx hy hz hN hH hK
  intro g a w hs K' Q hK'
  have h := key g a w hs K' Q hK'
  unfold Oper.wp at h ⊢
  simp only [execOp, ho] at h ⊢
  exact h
end
end Go.Proofs.Yteibfmaddnnkaaa
