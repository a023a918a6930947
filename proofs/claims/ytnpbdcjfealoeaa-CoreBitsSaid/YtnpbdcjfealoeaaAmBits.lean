-- %hmode
/- core.Bits and what it calls. -/
import Derived.Test.YtnpbdcjfealoeaaBits
import Derived.Test.YtnpbdcjfealoeaaAmCheck
import Derived.Test.YtnpbdcjfealoeaaAmStrm
import Derived.Test.YtnpbdcjfealoeaaAmK
namespace Go.Proofs.Ytnpbdcjfealoeaa
open Go.RowKit
set_option linter.unusedSimpArgs false
set_option linter.unusedVariables false
set_option maxRecDepth 100000

abbrev P2 : Type := Int × Int
abbrev encP (p : P2) : Value := .agg #[.int .i64 p.1, .int .i64 p.2]
theorem range2 : List.range' 0 2 = [0, 1] := rfl
theorem eqP1 (n : Nat) (a1 a2 b1 b2 : Int) (w : World) : (Op.equalIn (n + 2) 85 (.agg #[.int .i64 a1, .int .i64 a2]) (.agg #[.int .i64 b1, .int .i64 b2])).run Try.prog w = .ok (decide (a1 = b1) && decide (a2 = b2)) w := by
 have hi : ∀ (x y : Int) (w : World), (Op.equalIn (n + 1) 3 (.int .i64 x) (.int .i64 y)).run Try.prog w = .ok (x == y) w := fun x y w => by simp [go_sem]
 unfold Op.equalIn
 simp only [Sem.run_bind, run_underlying Try.underlying85, Result.andThen_ok]
 by_cases h1 : a1 = b1 <;> by_cases h2 : a2 = b2 <;> simp [range2, go_sem, hi, h1, h2]
theorem eqP0 (a1 a2 b1 b2 : Int) (w : World) : (Op.equalIn 10000 85 (.agg #[.int .i64 a1, .int .i64 a2]) (.agg #[.int .i64 b1, .int .i64 b2])).run Try.prog w = .ok (decide (a1 = b1) && decide (a2 = b2)) w := eqP1 9998 a1 a2 b1 b2 w
theorem eqP (a b : P2) (w : World) : (Op.equal 85 (encP a) (encP b)).run Try.prog w = .ok (decide (a = b)) w := by
 obtain ⟨a1, a2⟩ := a
 obtain ⟨b1, b2⟩ := b
 refine (eqP0 a1 a2 b1 b2 w).trans ?_
 congr 1
 rw [Bool.eq_iff_iff]
 simp
theorem checkP (b : Bool) (a : P2) (w : World) : (Instr.checkKey b 10000 85 (encP a)).run Try.prog w = .ok () w := by
 have : ∀ n : Nat, (Instr.checkKey b (n + 2) 85 (encP a)).run Try.prog w = .ok () w := fun n => by
  have hi : ∀ (x : Int) (w : World), (Instr.checkKey b (n + 1) 3 (.int .i64 x)).run Try.prog w = .ok () w := fun x w => by simp [Instr.checkKey, go_sem]
  unfold Instr.checkKey
  simp only [Sem.run_bind, run_underlying Try.underlying85, Result.andThen_ok]
  simp [range2, encP, go_sem, hi]
 exact this 9998
theorem askP (a : P2) (w : World) : ∀ (l : List (P2 × Int)) (i j : Nat), (Instr.findAsking 85 (encP a) (((mrows encP l).zipIdx j).map fun x => ({ key := x.1.1, val := x.1.2, born := x.2 } : MapEntry)) i).run Try.prog w = .ok ((mfind l a i).map fun x => (x.1, .int .i64 x.2)) w
 | [], i, j => by simp [Instr.findAsking, mrows, mfind]
 | (k, v) :: l, i, j => by
  have ih := askP a w l (i + 1) (j + 1)
  simp only [mrows, List.map_cons, List.zipIdx_cons, Instr.findAsking, Sem.run_bind, eqP, Result.andThen_ok, mfind] at ih ⊢
  by_cases e : a = k
  ·subst e; simp
  ·simp only [e, decide_false, if_false]
   simpa [mrows] using ih
theorem keyOk85 : KeyOk Try.prog 85 encP := by
 refine ⟨checkP, fun l a w => ?_, fun a => ?_⟩
 ·have hnow : ∀ (l : List (P2 × Int)) (j : Nat), l ≠ [] → ∀ n e, Instr.findNow (.array n e) (encP a) (((mrows encP l).zipIdx j).map fun x => ({ key := x.1.1, val := x.1.2, born := x.2 } : MapEntry)) 0 = none := by
   intro l j hl n e
   cases l with
   | nil => exact absurd rfl hl
   | cons x l => simp [mrows, List.zipIdx_cons, Instr.findNow, Instr.sameNow]
  simp only [Instr.findKey, Sem.run_bind, run_underlying Try.underlying85, Result.andThen_ok, ments, List.toList_toArray]
  by_cases hl : l = []
  ·subst hl; simp [mrows, Instr.findNow, mfind]
  ·rw [hnow l 0 hl]
   exact askP a w l 0 0
 ·have : ∀ n : Nat, Instr.sameBits (n + 2) (encP a) (encP a) = true := fun n => by simp [Instr.sameBits]
  exact this 9998
theorem keyE85 {w : World} {q : Nat → Prop} {g : Nat → Nat × Nat} {a b : Int} {v : Value} (h : VRep w q g (.agg [.i a, .i b]) v) : v = encP (a, b) := by
 cases h with
 | agg _ cs hl h =>
  match cs, hl with
  | [x, y], _ =>
   rw [VRep.p_eq (h 0 _ _ rfl rfl), VRep.p_eq (h 1 _ _ rfl rfl)]
theorem cmp_neq_85F {c : Cx} {s : S} {o : Oper} {t' : TypeId} {x y : Operand} {a1 a2 b1 b2 : Int} {r : Bool} (hP : c.P = Try.prog) (ho : o.op = .binOp .neq 85 x y t') (hx : s.ev x = some (.agg [.i a1, .i a2])) (hy : s.ev y = some (.agg [.i b1, .i b2])) (h : (!(decide (a1 = b1) && decide (a2 = b2))) = r) : RP c o s (.b r) := by
 subst h
 refine rp_bin_agg [.int .i64 a1, .int .i64 a2] [.int .i64 b1, .int .i64 b2] ho hx hy (fun w => ?_) (fun w => ?_)
 ·rw [hP]; simp [go_sem]
 ·rw [hP]
  have h2 : (Op.equal 85 (.agg #[.int .i64 a1, .int .i64 a2]) (.agg #[.int .i64 b1, .int .i64 b2])).run Try.prog w = _ := eqP0 a1 a2 b1 b2 w
  simp only [binOp, Sem.run_bind, h2, Result.andThen_ok]
  rfl
theorem upM_agg2 (r : Nat) (l : List (Value × Value)) (a b : Value) : upM r l (.agg [.d (.p a), .d (.p b)]) = .agg [.d (.p a), .d (.p b)] := rfl
section
variable {c : Cx} {s : S} {o : Oper} {K : Type} [DecidableEq K] {enc : K → Value}
theorem rd_lookup0 {t k e : TypeId} {bt : Nat} {x y : Operand} {r N : Nat} {l : List (K × Int)} {key : K} {v : Int} (hk : KeyOk c.P k enc) (hu : c.P.underlying t = some (.map k e)) (hi : Inf c.P e 1 bt (.int .i64 0)) (ho : o.op = .lookup t x y false) (hx : s.ev x = some (.mp r N (mrows enc l)) ∨ s.ev x = some (.d (.mp (mrows enc l)))) (hy : ∀ g a w, Sim c g s a w → a.eval y = enc key)
  (hv : (mget l key).getD 0 = v) : RD c o s (.i v) := rd_lookup (ok := false) hk hu hi ho hx hy (by rw [hv]; rfl)
end

theorem am_order (a b : Ar) : Fn Try.prog 61 [.agg ((arD a).map V.d), .agg ((arD b).map V.d)] (fun v => v = .i (ordC a b)) := by
 obtain ⟨ai, ao, aw, at'⟩ := a
 obtain ⟨bi, bo, bw, bt⟩ := b
 refine Fn.intro (n := 27) ⟨Try.func61, rfl, rfl, rfl, rfl⟩ (by simp [V.pure, V.has, V.hasL]) (by simp) fun w0 out => ?_
 refine AW.seq ?_
 refine AW.region ?_
 refine AL.sm rfl (sm_box 2 rfl rfl rfl (by first | rfl | simp [S.clean, S.put, S.newObj, S.forget, V.has, V.hasL, junkIf, setL, V.cs, hasL_i, hasL_b, hasL_s, hasL_n, hasL_rep, hasL_flat, hasL_append, -List.map_set]) rfl) ?_
 refine AL.sm rfl (sm_box 3 rfl rfl rfl (by first | rfl | simp [S.clean, S.put, S.newObj, S.forget, V.has, V.hasL, junkIf, setL, V.cs, hasL_i, hasL_b, hasL_s, hasL_n, hasL_rep, hasL_flat, hasL_append, -List.map_set]) rfl) ?_
 refine AL.rp rfl rfl (rp_assign rfl rfl) ?_
 refine AL.nil ?_
 try simp only [thenS, S.put, S.newObj, setL, V.cs, List.length_cons, List.length_nil, List.take_succ_cons, List.take_zero, List.drop_succ_cons, List.drop_zero, List.drop_nil, List.nil_append, List.cons_append, List.append_nil, Nat.zero_add, Nat.reduceAdd, List.map_cons, List.map_nil, List.set_cons_zero, List.set_cons_succ, enum]
 refine AW.seq ?_
 refine AW.draw [(0, true), (1, true), (2, true), (3, true), (5, true), (6, true), (7, true), (8, true), (10, true), (11, true), (12, true), (13, true), (15, true), (16, true), (17, true), (18, true), (4, false), (9, false), (14, false), (19, false), (20, false), (21, false), (22, false)] (fun i => !([] : List Nat).contains i) 23 (by kernel_rfl) (by kernel_rfl) rfl (by kernel_rfl) ?_
 (first | (refine AD1.rp rfl rfl rfl (fun _ _ h => h) (rp_field_ref Try.underlying79 rfl rfl rfl inf3 (by decide) rfl) ?_) | (refine AD1.rp rfl rfl rfl (fun _ _ h => h) (rp_field_ad Try.underlying79 rfl rfl rfl inf3 (by decide) rfl) ?_))
 (first | (refine AD1.rd rfl rfl rfl (fun _ _ h => h) (rd_load_ref Try.underlying3 rfl rfl rfl rfl rfl rfl) ?_) | (refine AD1.rd rfl rfl rfl (fun _ _ h => h) (rd_load_ad Try.underlying3 rfl rfl rfl rfl) ?_) | (refine AD1.rd rfl rfl rfl (fun _ _ h => h) (rd_load_map Try.underlying3 rfl rfl rfl rfl rfl rfl (by assumption)) ?_) | (refine AD1.rd rfl rfl rfl (fun _ _ h => h) (rd_load_flat Try.underlying3 rfl rfl rfl rfl rfl rfl (fun _ => rfl) (by assumption) rfl) ?_))
 (first | (refine AD1.rp rfl rfl rfl (fun _ _ h => h) (rp_field_ref Try.underlying79 rfl rfl rfl inf3 (by decide) rfl) ?_) | (refine AD1.rp rfl rfl rfl (fun _ _ h => h) (rp_field_ad Try.underlying79 rfl rfl rfl inf3 (by decide) rfl) ?_))
 (first | (refine AD1.rd rfl rfl rfl (fun _ _ h => h) (rd_load_ref Try.underlying3 rfl rfl rfl rfl rfl rfl) ?_) | (refine AD1.rd rfl rfl rfl (fun _ _ h => h) (rd_load_ad Try.underlying3 rfl rfl rfl rfl) ?_) | (refine AD1.rd rfl rfl rfl (fun _ _ h => h) (rd_load_map Try.underlying3 rfl rfl rfl rfl rfl rfl (by assumption)) ?_) | (refine AD1.rd rfl rfl rfl (fun _ _ h => h) (rd_load_flat Try.underlying3 rfl rfl rfl rfl rfl rfl (fun _ => rfl) (by assumption) rfl) ?_))
 (first | (refine AD1.rp rfl rfl rfl (fun _ _ h => h) (rp_field_ref Try.underlying79 rfl rfl rfl inf3 (by decide) rfl) ?_) | (refine AD1.rp rfl rfl rfl (fun _ _ h => h) (rp_field_ad Try.underlying79 rfl rfl rfl inf3 (by decide) rfl) ?_))
 (first | (refine AD1.rd rfl rfl rfl (fun _ _ h => h) (rd_load_ref Try.underlying3 rfl rfl rfl rfl rfl rfl) ?_) | (refine AD1.rd rfl rfl rfl (fun _ _ h => h) (rd_load_ad Try.underlying3 rfl rfl rfl rfl) ?_) | (refine AD1.rd rfl rfl rfl (fun _ _ h => h) (rd_load_map Try.underlying3 rfl rfl rfl rfl rfl rfl (by assumption)) ?_) | (refine AD1.rd rfl rfl rfl (fun _ _ h => h) (rd_load_flat Try.underlying3 rfl rfl rfl rfl rfl rfl (fun _ => rfl) (by assumption) rfl) ?_))
 (first | (refine AD1.rp rfl rfl rfl (fun _ _ h => h) (rp_field_ref Try.underlying79 rfl rfl rfl inf3 (by decide) rfl) ?_) | (refine AD1.rp rfl rfl rfl (fun _ _ h => h) (rp_field_ad Try.underlying79 rfl rfl rfl inf3 (by decide) rfl) ?_))
 (first | (refine AD1.rd rfl rfl rfl (fun _ _ h => h) (rd_load_ref Try.underlying3 rfl rfl rfl rfl rfl rfl) ?_) | (refine AD1.rd rfl rfl rfl (fun _ _ h => h) (rd_load_ad Try.underlying3 rfl rfl rfl rfl) ?_) | (refine AD1.rd rfl rfl rfl (fun _ _ h => h) (rd_load_map Try.underlying3 rfl rfl rfl rfl rfl rfl (by assumption)) ?_) | (refine AD1.rd rfl rfl rfl (fun _ _ h => h) (rd_load_flat Try.underlying3 rfl rfl rfl rfl rfl rfl (fun _ => rfl) (by assumption) rfl) ?_))
 (first | (refine AD1.rp rfl rfl rfl (fun _ _ h => h) (rp_field_ref Try.underlying79 rfl rfl rfl inf3 (by decide) rfl) ?_) | (refine AD1.rp rfl rfl rfl (fun _ _ h => h) (rp_field_ad Try.underlying79 rfl rfl rfl inf3 (by decide) rfl) ?_))
 (first | (refine AD1.rd rfl rfl rfl (fun _ _ h => h) (rd_load_ref Try.underlying3 rfl rfl rfl rfl rfl rfl) ?_) | (refine AD1.rd rfl rfl rfl (fun _ _ h => h) (rd_load_ad Try.underlying3 rfl rfl rfl rfl) ?_) | (refine AD1.rd rfl rfl rfl (fun _ _ h => h) (rd_load_map Try.underlying3 rfl rfl rfl rfl rfl rfl (by assumption)) ?_) | (refine AD1.rd rfl rfl rfl (fun _ _ h => h) (rd_load_flat Try.underlying3 rfl rfl rfl rfl rfl rfl (fun _ => rfl) (by assumption) rfl) ?_))
 (first | (refine AD1.rp rfl rfl rfl (fun _ _ h => h) (rp_field_ref Try.underlying79 rfl rfl rfl inf3 (by decide) rfl) ?_) | (refine AD1.rp rfl rfl rfl (fun _ _ h => h) (rp_field_ad Try.underlying79 rfl rfl rfl inf3 (by decide) rfl) ?_))
 (first | (refine AD1.rd rfl rfl rfl (fun _ _ h => h) (rd_load_ref Try.underlying3 rfl rfl rfl rfl rfl rfl) ?_) | (refine AD1.rd rfl rfl rfl (fun _ _ h => h) (rd_load_ad Try.underlying3 rfl rfl rfl rfl) ?_) | (refine AD1.rd rfl rfl rfl (fun _ _ h => h) (rd_load_map Try.underlying3 rfl rfl rfl rfl rfl rfl (by assumption)) ?_) | (refine AD1.rd rfl rfl rfl (fun _ _ h => h) (rd_load_flat Try.underlying3 rfl rfl rfl rfl rfl rfl (fun _ => rfl) (by assumption) rfl) ?_))
 (first | (refine AD1.rp rfl rfl rfl (fun _ _ h => h) (rp_field_ref Try.underlying79 rfl rfl rfl inf3 (by decide) rfl) ?_) | (refine AD1.rp rfl rfl rfl (fun _ _ h => h) (rp_field_ad Try.underlying79 rfl rfl rfl inf3 (by decide) rfl) ?_))
 (first | (refine AD1.rd rfl rfl rfl (fun _ _ h => h) (rd_load_ref Try.underlying3 rfl rfl rfl rfl rfl rfl) ?_) | (refine AD1.rd rfl rfl rfl (fun _ _ h => h) (rd_load_ad Try.underlying3 rfl rfl rfl rfl) ?_) | (refine AD1.rd rfl rfl rfl (fun _ _ h => h) (rd_load_map Try.underlying3 rfl rfl rfl rfl rfl rfl (by assumption)) ?_) | (refine AD1.rd rfl rfl rfl (fun _ _ h => h) (rd_load_flat Try.underlying3 rfl rfl rfl rfl rfl rfl (fun _ => rfl) (by assumption) rfl) ?_))
 (first | (refine AD1.rp rfl rfl rfl (fun _ _ h => h) (rp_field_ref Try.underlying79 rfl rfl rfl inf3 (by decide) rfl) ?_) | (refine AD1.rp rfl rfl rfl (fun _ _ h => h) (rp_field_ad Try.underlying79 rfl rfl rfl inf3 (by decide) rfl) ?_))
 (first | (refine AD1.rd rfl rfl rfl (fun _ _ h => h) (rd_load_ref Try.underlying3 rfl rfl rfl rfl rfl rfl) ?_) | (refine AD1.rd rfl rfl rfl (fun _ _ h => h) (rd_load_ad Try.underlying3 rfl rfl rfl rfl) ?_) | (refine AD1.rd rfl rfl rfl (fun _ _ h => h) (rd_load_map Try.underlying3 rfl rfl rfl rfl rfl rfl (by assumption)) ?_) | (refine AD1.rd rfl rfl rfl (fun _ _ h => h) (rd_load_flat Try.underlying3 rfl rfl rfl rfl rfl rfl (fun _ => rfl) (by assumption) rfl) ?_))
 refine AD1.go ?_
 refine AD2.call (post := ?pc0) rfl rfl (sm_call (args := [_, _]) ?hc0 ⟨Try.func88, rfl, rfl, rfl, rfl⟩ rfl rfl rfl rfl) ?_
 case hc0 => exact am_cmp ai bi
 rintro _ rfl -
 try dsimp only
 refine AD2.call (post := ?pc1) rfl rfl (sm_call (args := [_, _]) ?hc1 ⟨Try.func88, rfl, rfl, rfl, rfl⟩ rfl rfl rfl rfl) ?_
 case hc1 => exact am_cmp ao bo
 rintro _ rfl -
 try dsimp only
 refine AD2.call (post := ?pc2) rfl rfl (sm_call (args := [_, _]) ?hc2 ⟨Try.func88, rfl, rfl, rfl, rfl⟩ rfl rfl rfl rfl) ?_
 case hc2 => exact am_cmp at' bt
 rintro _ rfl -
 try dsimp only
 refine AD2.call (post := ?pc3) rfl rfl (sm_call (args := [_, _]) ?hc3 ⟨Try.func88, rfl, rfl, rfl, rfl⟩ rfl rfl rfl rfl) ?_
 case hc3 => exact am_cmp aw bw
 rintro _ rfl -
 try dsimp only
 refine AD2.sm rfl rfl (sm_slice (vs := [(0, _), (1, _), (2, _), (3, _)]) (zs := [.d (.p (.int .i64 0)), .d (.p (.int .i64 0)), .d (.p (.int .i64 0)), .d (.p (.int .i64 0))]) 25 Try.underlying29 inf3 rfl rfl (by decide) (by decide) (by decide) rfl rfl rfl rfl (by first | rfl | simp [S.clean, S.put, S.newObj, S.forget, V.has, V.hasL, junkIf, setL, V.cs, hasL_i, hasL_b, hasL_s, hasL_n, hasL_rep, hasL_flat, hasL_append, -List.map_set]) (by first | rfl | simp [S.clean, S.put, S.newObj, S.forget, V.has, V.hasL, junkIf, setL, V.cs, hasL_i, hasL_b, hasL_s, hasL_n, hasL_rep, hasL_flat, hasL_append, -List.map_set]) rfl) ?_
 refine AD2.call (post := ?pc4) rfl rfl (sm_callr (args := ?ac4) (us := [_]) ?hc4 ?qc4 ⟨Try.func87, rfl, rfl, rfl, rfl⟩ rfl rfl rfl ?rc4 rfl) ?_
 case hc4 => exact am_Or [cmpI ai bi, cmpI ao bo, cmpI at' bt, cmpI aw bw]
 case qc4 => (intro v hv; first | (subst hv; first | trivial | (simp [V.plain]; done)) | (obtain ⟨_, rfl, _⟩ := hv; first | trivial | (simp [V.plain]; done)))
 case rc4 => exact .cons (.own 25 1 4 8 false _ ([cmpI ai bi, cmpI ao bo, cmpI at' bt, cmpI aw bw].map fun x => [D.p (.int .i64 x)]) rfl rfl rfl (by decide) (rows1 (f := fun x => D.p (.int .i64 x)) (by simp [setL, V.cs]))) .nil
 rintro _ rfl -
 try dsimp only
 refine AD2.rp1 rfl rfl rfl (rp_assign rfl rfl) ?_
 refine AD2.nil ?_
 try simp only [thenS, S.put, S.newObj, setL, V.cs, List.length_cons, List.length_nil, List.take_succ_cons, List.take_zero, List.drop_succ_cons, List.drop_zero, List.drop_nil, List.nil_append, List.cons_append, List.append_nil, Nat.zero_add, Nat.reduceAdd, List.map_cons, List.map_nil, List.set_cons_zero, List.set_cons_succ]
 refine AW.ret ?_
 exact ⟨[_], ⟨rfl, trivial⟩, rfl, by simp [tupOf, V.pure, V.has]⟩
theorem am_sorted (l : List Ar) (hb : l.length ≤ 400) : Fn Try.prog 60 [.d (arsD l), .fn 61 []] (fun v => v = .b (srtN l l.length)) := by
 rw [← adj_srt, adj_end (show l.length ≤ l.length + 1 by omega)]
 obtain ⟨n, hn⟩ : ∃ n, l.length = n := ⟨_, rfl⟩
 rw [hn] at hb ⊢
 obtain ⟨B, hB⟩ : ∃ B, adjN l (n - 1) = B := ⟨_, rfl⟩
 rw [hB]
 refine Fn.intro (n := 25) ⟨Try.func60, rfl, rfl, rfl, rfl⟩ (by simp [V.pure, V.has, V.hasL]) (by simp) fun w0 out => ?_
 refine AW.seq ?_
 refine AW.region ?_
 refine AL.rp rfl rfl (rp_assign rfl rfl) ?_
 refine AL.nil ?_
 try simp only [thenS, S.put, enum, List.nil_append, List.cons_append, List.append_nil, Nat.zero_add, Nat.reduceAdd]
 refine AW.seq ?_
 refine AW.seq ?_
 refine AW.region ?_
 refine AL.rp rfl rfl (rp_move rfl rfl) ?_
 (first | (refine AL.rp rfl rfl (rp_len_map Try.underlying67 rfl rfl (by assumption)) ?_) | (refine AL.rp rfl rfl (rp_len_own Try.underlying67 rfl rfl) ?_) | (refine AL.rp rfl rfl (rp_len_sl Try.underlying67 rfl rfl) ?_) | (refine AL.rp rfl rfl (rp_len_nil Try.underlying67 rfl rfl) ?_) | (refine AL.rp rfl rfl (rp_len_str Try.underlying67 rfl rfl) ?_))
 refine AL.rp rfl rfl (rp_sub rfl rfl rfl (by first | omega | (dsimp only; omega))) ?_
 refine AL.rp rfl rfl (rp_assign rfl rfl) ?_
 refine AL.nil ?_
 try simp only [thenS, S.put]
 refine AW.block ?_
 refine AW.loop (fun s' => ∃ z : Int, -1 ≤ z ∧ z ≤ (n : Int) - 1 ∧ adjN l z.toNat = B ∧ s' = ⟨25, [(0, .d (arsD l)), (1, .fn 61 []), (5, .i z)], [], []⟩) (fun s' => s'.nat 5) ⟨_, ?_, (n : Int) - 1, by omega, by omega, by rw [show ((n : Int) - 1).toNat = n - 1 by omega]; exact hB, rfl⟩ ?_
 ·exact (Less.of rfl (by repeat (first | exact trivial | refine ⟨⟨_, rfl, Wk.refl _⟩, ?_⟩ | refine ⟨⟨_, rfl, Wk.nil _ _⟩, ?_⟩ | refine ⟨⟨_, rfl, Wk.junk _⟩, ?_⟩)) (by repeat (first | exact trivial | refine ⟨rfl, ?_⟩)) rfl)
 rintro s' ⟨z, hz1, hz2, hz, rfl⟩
 by_cases hz0 : z > 0
 ·obtain ⟨k, rfl⟩ : ∃ k : Nat, z = ((k + 1 : Nat) : Int) := ⟨z.toNat - 1, by omega⟩
  obtain ⟨a, ha⟩ := get_lt hn (show k + 1 < n by omega)
  obtain ⟨b, hb'⟩ := get_lt hn (show k < n by omega)
  have hk1 : ((k + 1 : Nat) : Int) - 1 = (k : Int) := by omega
  rw [Int.toNat_natCast] at hz
  simp only [adjN, if_pos (show k + 1 < l.length by omega), arAt_of ha, arAt_of hb'] at hz
  have hcon := am_order a b
  have hneg := ordC_neg a b
  obtain ⟨oc, hoc⟩ : ∃ oc, ordC a b = oc := ⟨_, rfl⟩
  rw [hoc] at hcon hneg
  clear hoc
  cases hah : ahd a b with
  | true =>
   rw [hah] at hz hneg
   have h0 : oc < 0 := hneg.2 rfl
   obtain rfl : B = false := by rw [← hz]; rfl
   refine AW.seq ?_
   refine AW.seq ?_
   refine AW.region ?_
   refine AL.rp rfl rfl (rp_move rfl rfl) ?_
   (first | (refine AL.rp rfl rfl (rp_gtrT rfl rfl rfl (by first | assumption | omega | (dsimp only; omega))) ?_) | (refine AL.rp rfl rfl (rp_gtrF rfl rfl rfl (by first | assumption | omega | (dsimp only; omega))) ?_) | (refine AL.rp rfl rfl (rp_gtr rfl rfl rfl) ?_))
   refine AL.nil ?_
   try simp only [thenS, S.put]
   refine AW.condT rfl ?_
   refine AW.skip ?_
   try simp only [thenS]
   refine AW.seq ?_
   refine AW.block ?_
   refine AW.seq ?_
   refine AW.draw [(0, true), (1, true), (2, true), (3, true), (4, true), (5, true), (6, true), (7, true), (8, true), (9, true), (10, false), (11, false)] (fun i => !([] : List Nat).contains i) 12 (by kernel_rfl) (by kernel_rfl) rfl (by kernel_rfl) ?_
   refine AD1.rp rfl rfl rfl (fun _ _ h => h) (rp_move rfl rfl) ?_
   refine AD1.rp rfl rfl rfl (fun _ _ h => h) (rp_move rfl rfl) ?_
   refine AD1.rp rfl rfl rfl (fun _ _ h => h) (rp_move rfl rfl) ?_
   (first | (refine AD1.rp rfl rfl rfl (fun _ _ h => h) (rp_index_map Try.underlying67 inf79 rfl rfl rfl rfl (by assumption)) ?_) | (refine AD1.rp rfl rfl rfl (fun _ _ h => h) (rp_index_own Try.underlying67 inf79 rfl rfl rfl rfl (by first | assumption | omega)) ?_) | (refine AD1.rp rfl rfl rfl (fun _ _ h => h) (rd_index_sl Try.underlying67 inf79 rfl rfl rfl rfl (by assumption)) ?_) | (refine AD1.rp rfl rfl rfl (fun _ _ h => h) (rp_index_own Try.underlying67 inf79 rfl rfl rfl (by omega) (by omega)) ?_))
   (first | (refine AD1.rd rfl rfl rfl (fun _ _ h => h) (rd_loads_ref Try.underlying79 rfl inf79 rfl rfl rfl rfl rfl rfl) ?_) | (refine AD1.rd rfl rfl rfl (fun _ _ h => h) (rd_loads_ad Try.underlying79 rfl inf79 rfl rfl rfl rfl) ?_))
   refine AD1.rp rfl rfl rfl (fun _ _ h => h) (rp_move rfl rfl) ?_
   refine AD1.rp rfl rfl rfl (fun _ _ h => h) (rp_move rfl rfl) ?_
   refine AD1.rp rfl rfl rfl (fun _ _ h => h) (rp_sub rfl rfl rfl (by first | omega | (dsimp only; omega))) ?_
   (first | (refine AD1.rp rfl rfl rfl (fun _ _ h => h) (rp_index_own (k := k) Try.underlying67 inf79 rfl rfl rfl (by omega) (by omega)) ?_) | (refine AD1.rp rfl rfl rfl (fun _ _ h => h) (rp_index_map (k := k) Try.underlying67 inf79 rfl rfl rfl (by omega) (by assumption)) ?_))
   (first | (refine AD1.rd rfl rfl rfl (fun _ _ h => h) (rd_loads_ref Try.underlying79 rfl inf79 rfl rfl rfl rfl rfl rfl) ?_) | (refine AD1.rd rfl rfl rfl (fun _ _ h => h) (rd_loads_ad Try.underlying79 rfl inf79 rfl rfl rfl rfl) ?_))
   refine AD1.go ?_
   refine AD2.call (post := ?pc5) rfl rfl (sm_callv (args := [_, _]) ?hc5 ⟨Try.func61, rfl, rfl, rfl, rfl⟩ rfl rfl rfl rfl) ?_
   case hc5 => exact hcon
   rintro _ rfl -
   try dsimp only
   (first | (refine AD2.rp1 rfl rfl rfl (rp_lssT rfl rfl rfl (by first | assumption | omega | (dsimp only; omega))) ?_) | (refine AD2.rp1 rfl rfl rfl (rp_lssF rfl rfl rfl (by first | assumption | omega | (dsimp only; omega))) ?_) | (refine AD2.rp1 rfl rfl rfl (rp_lss rfl rfl rfl) ?_))
   refine AD2.nil ?_
   try simp only [thenS, S.put, S.newObj, setL, V.cs, List.length_cons, List.length_nil, List.take_succ_cons, List.take_zero, List.drop_succ_cons, List.drop_zero, List.drop_nil, List.nil_append, List.cons_append, List.append_nil, Nat.zero_add, Nat.reduceAdd, List.map_cons, List.map_nil, List.set_cons_zero, List.set_cons_succ]
   refine AW.condT rfl ?_
   refine AW.seq ?_
   refine AW.region ?_
   refine AL.rp rfl rfl (rp_assign rfl rfl) ?_
   refine AL.nil ?_
   try simp only [thenS, S.put]
   refine AW.ret ?_
   exact ⟨[_], ⟨rfl, trivial⟩, rfl, by simp [tupOf, V.pure, V.has]⟩
  | false =>
   rw [hah] at hz hneg
   have h0 : ¬ oc < 0 := fun h => by have := hneg.1 h; cases this
   have hz' : adjN l k = B := by rw [← hz]; simp
   refine AW.seq ?_
   refine AW.seq ?_
   refine AW.region ?_
   refine AL.rp rfl rfl (rp_move rfl rfl) ?_
   (first | (refine AL.rp rfl rfl (rp_gtrT rfl rfl rfl (by first | assumption | omega | (dsimp only; omega))) ?_) | (refine AL.rp rfl rfl (rp_gtrF rfl rfl rfl (by first | assumption | omega | (dsimp only; omega))) ?_) | (refine AL.rp rfl rfl (rp_gtr rfl rfl rfl) ?_))
   refine AL.nil ?_
   try simp only [thenS, S.put]
   refine AW.condT rfl ?_
   refine AW.skip ?_
   try simp only [thenS]
   refine AW.seq ?_
   refine AW.block ?_
   refine AW.seq ?_
   refine AW.draw [(0, true), (1, true), (2, true), (3, true), (4, true), (5, true), (6, true), (7, true), (8, true), (9, true), (10, false), (11, false)] (fun i => !([] : List Nat).contains i) 12 (by kernel_rfl) (by kernel_rfl) rfl (by kernel_rfl) ?_
   refine AD1.rp rfl rfl rfl (fun _ _ h => h) (rp_move rfl rfl) ?_
   refine AD1.rp rfl rfl rfl (fun _ _ h => h) (rp_move rfl rfl) ?_
   refine AD1.rp rfl rfl rfl (fun _ _ h => h) (rp_move rfl rfl) ?_
   (first | (refine AD1.rp rfl rfl rfl (fun _ _ h => h) (rp_index_map Try.underlying67 inf79 rfl rfl rfl rfl (by assumption)) ?_) | (refine AD1.rp rfl rfl rfl (fun _ _ h => h) (rp_index_own Try.underlying67 inf79 rfl rfl rfl rfl (by first | assumption | omega)) ?_) | (refine AD1.rp rfl rfl rfl (fun _ _ h => h) (rd_index_sl Try.underlying67 inf79 rfl rfl rfl rfl (by assumption)) ?_) | (refine AD1.rp rfl rfl rfl (fun _ _ h => h) (rp_index_own Try.underlying67 inf79 rfl rfl rfl (by omega) (by omega)) ?_))
   (first | (refine AD1.rd rfl rfl rfl (fun _ _ h => h) (rd_loads_ref Try.underlying79 rfl inf79 rfl rfl rfl rfl rfl rfl) ?_) | (refine AD1.rd rfl rfl rfl (fun _ _ h => h) (rd_loads_ad Try.underlying79 rfl inf79 rfl rfl rfl rfl) ?_))
   refine AD1.rp rfl rfl rfl (fun _ _ h => h) (rp_move rfl rfl) ?_
   refine AD1.rp rfl rfl rfl (fun _ _ h => h) (rp_move rfl rfl) ?_
   refine AD1.rp rfl rfl rfl (fun _ _ h => h) (rp_sub rfl rfl rfl (by first | omega | (dsimp only; omega))) ?_
   (first | (refine AD1.rp rfl rfl rfl (fun _ _ h => h) (rp_index_own (k := k) Try.underlying67 inf79 rfl rfl rfl (by omega) (by omega)) ?_) | (refine AD1.rp rfl rfl rfl (fun _ _ h => h) (rp_index_map (k := k) Try.underlying67 inf79 rfl rfl rfl (by omega) (by assumption)) ?_))
   (first | (refine AD1.rd rfl rfl rfl (fun _ _ h => h) (rd_loads_ref Try.underlying79 rfl inf79 rfl rfl rfl rfl rfl rfl) ?_) | (refine AD1.rd rfl rfl rfl (fun _ _ h => h) (rd_loads_ad Try.underlying79 rfl inf79 rfl rfl rfl rfl) ?_))
   refine AD1.go ?_
   refine AD2.call (post := ?pc6) rfl rfl (sm_callv (args := [_, _]) ?hc6 ⟨Try.func61, rfl, rfl, rfl, rfl⟩ rfl rfl rfl rfl) ?_
   case hc6 => exact hcon
   rintro _ rfl -
   try dsimp only
   (first | (refine AD2.rp1 rfl rfl rfl (rp_lssT rfl rfl rfl (by first | assumption | omega | (dsimp only; omega))) ?_) | (refine AD2.rp1 rfl rfl rfl (rp_lssF rfl rfl rfl (by first | assumption | omega | (dsimp only; omega))) ?_) | (refine AD2.rp1 rfl rfl rfl (rp_lss rfl rfl rfl) ?_))
   refine AD2.nil ?_
   try simp only [thenS, S.put, S.newObj, setL, V.cs, List.length_cons, List.length_nil, List.take_succ_cons, List.take_zero, List.drop_succ_cons, List.drop_zero, List.drop_nil, List.nil_append, List.cons_append, List.append_nil, Nat.zero_add, Nat.reduceAdd, List.map_cons, List.map_nil, List.set_cons_zero, List.set_cons_succ]
   refine AW.condF rfl ?_
   refine AW.skip ?_
   try simp only [thenS]
   refine AW.region ?_
   refine AL.rp rfl rfl (rp_move rfl rfl) ?_
   refine AL.rp rfl rfl (rp_sub rfl rfl rfl (by first | omega | (dsimp only; omega))) ?_
   refine AL.rp rfl rfl (rp_assign rfl rfl) ?_
   refine AL.nil ?_
   try simp only [thenS, S.put]
   refine ⟨_, ?_, ⟨k, by omega, by omega, by rw [Int.toNat_natCast]; exact hz', rfl⟩, ?_⟩
   ·rw [← hk1]; exact (Less.of rfl (by repeat (first | exact trivial | refine ⟨⟨_, rfl, Wk.refl _⟩, ?_⟩ | refine ⟨⟨_, rfl, Wk.nil _ _⟩, ?_⟩ | refine ⟨⟨_, rfl, Wk.junk _⟩, ?_⟩)) (by repeat (first | exact trivial | refine ⟨rfl, ?_⟩)) rfl)
   ·simp [S.nat, fnd]
 ·obtain rfl : B = true := by rw [← hz, show z.toNat = 0 by omega]; rfl
  refine AW.seq ?_
  refine AW.seq ?_
  refine AW.region ?_
  refine AL.rp rfl rfl (rp_move rfl rfl) ?_
  (first | (refine AL.rp rfl rfl (rp_gtrT rfl rfl rfl (by first | assumption | omega | (dsimp only; omega))) ?_) | (refine AL.rp rfl rfl (rp_gtrF rfl rfl rfl (by first | assumption | omega | (dsimp only; omega))) ?_) | (refine AL.rp rfl rfl (rp_gtr rfl rfl rfl) ?_))
  refine AL.nil ?_
  try simp only [thenS, S.put]
  refine AW.condF rfl ?_
  refine AW.exit ?_
  try simp only [thenS, inBlockS, ↓reduceIte, Nat.reduceEqDiff]
  refine AW.seq ?_
  refine AW.region ?_
  refine AL.rp rfl rfl (rp_assign rfl rfl) ?_
  refine AL.nil ?_
  try simp only [thenS, S.put]
  refine AW.ret ?_
  exact ⟨[_], ⟨rfl, trivial⟩, rfl, by simp [tupOf, V.pure, V.has]⟩
end Go.Proofs.Ytnpbdcjfealoeaa
