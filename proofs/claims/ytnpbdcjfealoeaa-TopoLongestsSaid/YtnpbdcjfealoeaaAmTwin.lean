/- Twins: a method called through an interface value; times and powers. -/
import Derived.Test.YtnpbdcjfealoeaaAmFault
import Derived.Test.YtnpbdcjfealoeaaAmLaw
import Derived.Test.YtnpbdcjfealoeaaAmH
namespace Go.Proofs.Ytnpbdcjfealoeaa
open Go.RowKit
set_option linter.unusedSimpArgs false
set_option linter.unusedVariables false
set_option maxRecDepth 100000

section
variable {c : Cx} {s : S} {o : Oper}
theorem rp_mkI {t : TypeId} {x : Operand} {l : List V} {v : Value} (ho : o.op = .makeInterface t x) (hx : s.ev x = some (.agg l)) (hv : ∀ w q g y, VRep w q g (.agg l) y → y = v) (hr : ∀ w, (Instr.makeInterface t v).run c.P w = .ok (.iface t v) w) : RP c o s (.d (.p (.iface t v))) := fun g a w hs =>
 ⟨.iface t v, .d _ _ (.p _), fun w' => by
  simp only [execOp, ho, hv _ _ _ _ (hs.ev hx), Sem.run_bind, hr w', Result.andThen_ok]
  rfl⟩
theorem agg0_eq {w : World} {q : Nat → Prop} {g : Nat → Nat × Nat} {y : Value} (h : VRep w q g (.agg []) y) : y = .agg #[] := by
 cases h with | agg _ cs hl _ =>
 match cs, hl with
 | [], _ => rfl
theorem exec_invoke {ρ : Operand → Value} {rx : Operand} {name : String} {xs : Array Operand} {ts : Array TypeId} {f : FuncId} {fn : Func} {code : Code} {n : Nat} {rs : List ResultVar} {t : TypeId} {v v' : Value} {w : World} (hf : Is c.P f fn code n rs) (ho : o.op = .call { callee := .invoke rx name, args := xs, argTypes := ts })
  (hfx : ρ rx = .iface t v) (hm : ∀ w, (method (c.P.types.size + Made.depth) t v name).run c.P w = .ok (f, v') w) : (execOp ρ o).run c.P w = .ok (.enter f (v' :: xs.toList.map ρ).toArray) w := by
 have hb : fn.body.isNone = false := by rw [hf.body]; rfl
 have hn := hf.name
 simp only [execOp, ho, resolve, hfx, Sem.run_bind, Sem.run_pure, Result.andThen_ok, invoke]
 have h0 : (#[Value.iface t v] ++ xs.map ρ)[0]? = some (.iface t v) := by simp [Array.getElem?_append_left]
 rw [h0]
 simp only [callMethod, Sem.run_bind, run_program, Result.andThen_ok, hm w]
 simp only [callFunc, Sem.run_bind, run_program, Result.andThen_ok, hf.func]
 simp at hn
 have hb' : ¬ fn.body = none := by rw [hf.body]; simp
 simp [hn, hb', hb, ← Array.toList_map]
 rw [List.take_of_length_le (by simp)]
/-- A method called through an interface value. -/
theorem sm_invoke {rx : Operand} {name : String} {xs : Array Operand} {ts : Array TypeId} {f : FuncId} {fn : Func} {code : Code} {n : Nat} {rs : List ResultVar} {t : TypeId} {v v' : Value} {rv : V} {args : List V} {post : V → Prop} (hfn : Fn c.P f (rv :: args) post) (hf : Is c.P f fn code n rs) (ho : o.op = .call { callee := .invoke rx name, args := xs, argTypes := ts })
  (hfx : s.ev rx = some (.d (.p (.iface t v)))) (hm : ∀ w, (method (c.P.types.size + Made.depth) t v name).run c.P w = .ok (f, v') w) (hv' : ∀ w q g, VRep w q g rv v') (hargs : xs.toList.map s.ev = args.map some) (hd : dok s o = true) : StepM c o s (fun s' => ∃ v, post v ∧ v.pure ∧ s' = s.put o.dst v) := by
 intro g a w hs K Q hK
 obtain ⟨hal, har⟩ := args_eval hs hargs
 have hx : VReps w (fun b => ¬ ¬ qt c s.H g b) g (rv :: args) (v' :: xs.toList.map a.eval) := by
  refine ⟨by simp at hal ⊢; omega, fun j u y hu hy => ?_⟩
  have hm : ∀ {v x}, VRep w (qt c s.H g) g v x → VRep w (fun b => ¬ ¬ qt c s.H g b) g v x := fun hv => hv.mono Cells.rfl (fun b hb _ => not_not_intro hb) (fun _ _ => rfl)
  match j, hu, hy with
  | 0, hu, hy =>
   simp only [List.getElem?_cons_zero, Option.some.injEq] at hu hy
   subst hu hy
   exact hv' _ _ _
  | j + 1, hu, hy =>
   simp only [List.getElem?_cons_succ] at hu hy
   exact hm (har j _ y hu hy)
 unfold Oper.wp
 rw [exec_invoke hf ho (VRep.p_eq (hs.ev hfx)) hm]
 simp only [Oper.upon]
 refine (hfn w (fun b => ¬ qt c s.H g b) g _ ?_ hx).mono ?_
 ·intro b hb
  rcases Classical.em (c.out b) with h | h
  ·exact Nat.lt_of_lt_of_le (hs.low b h) hs.below.size
  ·rcases Classical.em (∃ r row, fnd s.H r = some row ∧ row.nil = false ∧ (g r).1 = b) with ⟨r, row, h1, h2, rfl⟩ | h'
   ·obtain ⟨arr, h3, _⟩ := hs.obj r row h1 h2
    exact (Array.getElem?_eq_some_iff.1 h3).1
   ·exact absurd ⟨h, fun r row h1 h2 h3 => h' ⟨r, row, h1, h2, h3⟩⟩ hb
 ·rintro e w' ⟨v, x, rfl, h1, h2, h3, h4⟩
  refine hK g _ _ _ ⟨v, h1, h2, rfl⟩ ((hs.move h4).put o.dst (dok_spec hd) ?_) h4
  exact h3.mono Cells.rfl (fun b hb _ => Classical.not_not.1 hb) (fun r _ => rfl)
variable {Q : Exit → S → Prop} {L : List Oper} {need : Nat → Bool} {l : List (Nat × Bool)} {i r : Nat}
theorem AE1.rxy {v : V} {j : Nat} {b : Bool} (hi : L[i]? = some o) (hg : o.guard = some (j, b)) (hy : yld L.toArray s j = some b) (hd : dok s o = true) (hp : noP Q) (h : RX c o s r v) (hN : AE1 c L.toArray Q need r l (s.put o.dst v)) : AE1 c L.toArray Q need r ((i, true) :: l) s := fun e g a w hs he hl => by
 obtain ⟨x, h1, h2⟩ := h e g a w hs he
 exact ⟨o, x, by simpa using hi, .inl ⟨by simp [Region.wanted, hg, yld_spec hy hs], h2⟩, BX.refl _, QQ_noP hp _ _, hN e g _ w (hs.put o.dst (dok_spec hd) h1) he.put hl⟩
theorem AE1.rpy {v : V} {j : Nat} {b : Bool} (hi : L[i]? = some o) (hg : o.guard = some (j, b)) (hy : yld L.toArray s j = some b) (hd : dok s o = true) (hp : noP Q) (h : RP c o s v) (hN : AE1 c L.toArray Q need r l (s.put o.dst v)) : AE1 c L.toArray Q need r ((i, true) :: l) s := AE1.rxy hi hg hy hd hp h.rx hN
theorem AE1.no {j : Nat} {b b' : Bool} (hi : L[i]? = some o) (hg : o.guard = some (j, b)) (hy : yld L.toArray s j = some b') (hb : (b' == b) = false) (hd : dok s o = true) (hp : noP Q) (hN : AE1 c L.toArray Q need r l (s.put o.dst .junk)) : AE1 c L.toArray Q need r ((i, true) :: l) s := fun e g a w hs he hl =>
 ⟨o, undef, by simpa using hi, .inr ⟨by simp only [Region.wanted, hg, yld_spec hy hs]; simpa using hb, rfl⟩, BX.refl _, QQ_noP hp _ _, hN e g _ w (hs.put o.dst (dok_spec hd) (.junk _)) he.put hl⟩
theorem AE1.noV {j : Nat} {b b' : Bool} (hi : L[i]? = some o) (hg : o.guard = some (j, b)) (hy : yld L.toArray s j = some b') (hb : (b' == b) = false) (hd : dok s o = true) (hp : noP Q) (hN : AE1 c L.toArray Q need r l (s.put o.dst (.d (.p undef)))) : AE1 c L.toArray Q need r ((i, true) :: l) s := fun e g a w hs he hl =>
 ⟨o, undef, by simpa using hi, .inr ⟨by simp only [Region.wanted, hg, yld_spec hy hs]; simpa using hb, rfl⟩, BX.refl _, QQ_noP hp _ _, hN e g _ w (hs.put o.dst (dok_spec hd) (.d _ _ (.p _))) he.put hl⟩
theorem AE1.noU {j : Nat} {b : Bool} (hi : L[i]? = some o) (hg : o.guard = some (j, b)) (hy : und L.toArray s j) (hd : dok s o = true) (hp : noP Q) (hN : AE1 c L.toArray Q need r l (s.put o.dst (.d (.p undef)))) : AE1 c L.toArray Q need r ((i, true) :: l) s := fun e g a w hs he hl =>
 ⟨o, undef, by simpa using hi, .inr ⟨by simp only [Region.wanted, hg, und_spec hy hs]; simp, rfl⟩, BX.refl _, QQ_noP hp _ _, hN e g _ w (hs.put o.dst (dok_spec hd) (.d _ _ (.p _))) he.put hl⟩
end
theorem agg0 (w : World) (q : Nat → Prop) (g : Nat → Nat × Nat) : VRep w q g (.agg []) (.agg #[]) := .agg [] [] rfl (by intro j u c h; simp at h)
theorem eqW0 (a1 a2 b1 b2 : Int) (w : World) : (Op.equal 95 (.agg #[.int .i64 a1, .int .i64 a2]) (.agg #[.int .i64 b1, .int .i64 b2])).run Try.prog w = .ok (a1 == b1 && a2 == b2) w := by
 have : ∀ n : Nat, (Op.equalIn (n + 4) 95 (.agg #[.int .i64 a1, .int .i64 a2]) (.agg #[.int .i64 b1, .int .i64 b2])).run Try.prog w = .ok (a1 == b1 && a2 == b2) w := fun n => by
  simp [go_sem]
  by_cases h1 : a1 = b1 <;> by_cases h2 : a2 = b2 <;> simp [h1, h2]
 exact this 9996
theorem cmp_eql_95T {c : Cx} {s : S} {o : Oper} {t' : TypeId} {x y : Operand} {a1 a2 b1 b2 : Int} (hP : c.P = Try.prog) (ho : o.op = .binOp .eql 95 x y t') (hx : s.ev x = some (.agg [.i a1, .i a2])) (hy : s.ev y = some (.agg [.i b1, .i b2])) (h : a1 = b1 ∧ a2 = b2) : RP c o s (.b true) := by
 obtain ⟨rfl, rfl⟩ := h
 refine rp_bin_agg [.int .i64 a1, .int .i64 a2] [.int .i64 a1, .int .i64 a2] ho hx hy (fun w => ?_) (fun w => ?_)
 ·rw [hP]; simp [go_sem]
 ·rw [hP]; simp [go_sem]
theorem cmp_eql_95F {c : Cx} {s : S} {o : Oper} {t' : TypeId} {x y : Operand} {a1 a2 b1 b2 : Int} (hP : c.P = Try.prog) (ho : o.op = .binOp .eql 95 x y t') (hx : s.ev x = some (.agg [.i a1, .i a2])) (hy : s.ev y = some (.agg [.i b1, .i b2])) (h : ¬ (a1 = b1 ∧ a2 = b2)) : RP c o s (.b false) := by
 refine rp_bin_agg [.int .i64 a1, .int .i64 a2] [.int .i64 b1, .int .i64 b2] ho hx hy (fun w => ?_) (fun w => ?_)
 ·rw [hP]; simp [go_sem]
 ·rw [hP]
  have he := eqW0 a1 a2 b1 b2 w
  have h' : (a1 == b1 && a2 == b2) = false := by simp; intro e; exact fun e2 => h ⟨e, e2⟩
  rw [h'] at he
  simp [binOp, go_sem]
  rw [he]
  rfl

def mayT (a b : Int) : Prop := (a = 1000000001 ∧ b = 1000000001) ∨ ((0 ≤ a ∧ a ≤ 1000000000) ∧ (0 ≤ b ∧ b ≤ 1000000000))
instance (a b : Int) : Decidable (mayT a b) := inferInstanceAs (Decidable (_ ∨ _))
theorem am_twinMay (a b : Int) : Fn Try.prog 106 [.agg [.i a, .i b]] (fun v => v = .b (decide (mayT a b))) := by
 unfold mayT
 refine Fn.intro (n := 34) ⟨Try.func106, rfl, rfl, rfl, rfl⟩ (by simp [V.pure, V.has, V.hasL]) (by simp) fun w0 out => ?_
 by_cases h1 : a = 1000000001
 ·by_cases h2 : b = 1000000001
  ·skip
   refine AW.seq ?_
   refine AW.region ?_
   refine AL.sm rfl (sm_box 1 rfl rfl rfl (by first | rfl | simp [S.clean, S.put, S.newObj, S.forget, V.has, V.hasL, junkIf, setL, V.cs, hasL_i, hasL_b, hasL_s, hasL_n, hasL_rep, hasL_flat, hasL_append, -List.map_set]) rfl) ?_
   refine AL.rp rfl rfl (rp_assign rfl rfl) ?_
   refine AL.nil ?_
   try simp only [thenS, S.put, S.newObj, setL, V.cs, List.length_cons, List.length_nil, List.take_succ_cons, List.take_zero, List.drop_succ_cons, List.drop_zero, List.drop_nil, List.nil_append, List.cons_append, List.append_nil, Nat.zero_add, Nat.reduceAdd, List.map_cons, List.map_nil, List.set_cons_zero, List.set_cons_succ, enum]
   refine AW.seq ?_
   refine AW.seq ?_
   refine AW.region ?_
   (first | (refine AL.rp rfl rfl (rp_field_ref Try.underlying95 rfl rfl rfl inf3 (by decide) rfl) ?_) | (refine AL.rp rfl rfl (rp_field_ad Try.underlying95 rfl rfl rfl inf3 (by decide) rfl) ?_))
   (first | (refine AL.rd rfl rfl (rd_load_ref Try.underlying3 rfl rfl rfl rfl rfl rfl) ?_) | (refine AL.rd rfl rfl (rd_load_ad Try.underlying3 rfl rfl rfl rfl) ?_) | (refine AL.rd rfl rfl (rd_load_map Try.underlying3 rfl rfl rfl rfl rfl rfl (by assumption)) ?_) | (refine AL.rd rfl rfl (rd_load_flat Try.underlying3 rfl rfl rfl rfl rfl rfl (fun _ => rfl) (by assumption) rfl) ?_))
   (first | (refine AL.rp rfl rfl (rp_eqlT rfl rfl rfl (by first | assumption | omega | (dsimp only; omega))) ?_) | (refine AL.rp rfl rfl (rp_eqlF rfl rfl rfl (by first | assumption | omega | (dsimp only; omega))) ?_) | (refine AL.rp rfl rfl (rp_eql rfl rfl rfl) ?_))
   refine AL.rp rfl rfl (rp_move rfl rfl) ?_
   (first | (refine AL.noV rfl rfl rfl rfl ?_) | (refine AL.noU rfl ⟨_, rfl, rfl⟩ rfl ?_) | (refine AL.rpy rfl rfl rfl (rp_field_ref Try.underlying95 rfl rfl rfl inf3 (by decide) rfl) ?_) | (refine AL.rpy rfl rfl rfl (rp_field_ad Try.underlying95 rfl rfl rfl inf3 (by decide) rfl) ?_))
   (first | (refine AL.noV rfl rfl rfl rfl ?_) | (refine AL.noU rfl ⟨_, rfl, rfl⟩ rfl ?_) | (refine AL.rdy rfl rfl rfl (rd_load_ref Try.underlying3 rfl rfl rfl rfl rfl rfl) ?_) | (refine AL.rdy rfl rfl rfl (rd_load_ad Try.underlying3 rfl rfl rfl rfl) ?_) | (refine AL.rdy rfl rfl rfl (rd_load_map Try.underlying3 rfl rfl rfl rfl rfl rfl (by assumption)) ?_) | (refine AL.rdy rfl rfl rfl (rd_load_flat Try.underlying3 rfl rfl rfl rfl rfl rfl (fun _ => rfl) (by assumption) rfl) ?_))
   (first | (refine AL.noV rfl rfl rfl rfl ?_) | (refine AL.noU rfl ⟨_, rfl, rfl⟩ rfl ?_) | (refine AL.rpy rfl rfl rfl (rp_eqlT rfl rfl rfl (by first | assumption | omega | (dsimp only; omega))) ?_) | (refine AL.rpy rfl rfl rfl (rp_eqlF rfl rfl rfl (by first | assumption | omega | (dsimp only; omega))) ?_) | (refine AL.rpy rfl rfl rfl (rp_eql rfl rfl rfl) ?_))
   refine AL.rp rfl rfl (rp_pick rfl rfl rfl) ?_
   refine AL.nil ?_
   try simp only [thenS, S.put]
   refine AW.condT rfl ?_
   refine AW.seq ?_
   refine AW.region ?_
   (first | (refine AL.rp rfl rfl (rp_field_ref Try.underlying95 rfl rfl rfl inf3 (by decide) rfl) ?_) | (refine AL.rp rfl rfl (rp_field_ad Try.underlying95 rfl rfl rfl inf3 (by decide) rfl) ?_))
   (first | (refine AL.rd rfl rfl (rd_load_ref Try.underlying3 rfl rfl rfl rfl rfl rfl) ?_) | (refine AL.rd rfl rfl (rd_load_ad Try.underlying3 rfl rfl rfl rfl) ?_) | (refine AL.rd rfl rfl (rd_load_map Try.underlying3 rfl rfl rfl rfl rfl rfl (by assumption)) ?_) | (refine AL.rd rfl rfl (rd_load_flat Try.underlying3 rfl rfl rfl rfl rfl rfl (fun _ => rfl) (by assumption) rfl) ?_))
   (first | (refine AL.rp rfl rfl (rp_field_ref Try.underlying95 rfl rfl rfl inf3 (by decide) rfl) ?_) | (refine AL.rp rfl rfl (rp_field_ad Try.underlying95 rfl rfl rfl inf3 (by decide) rfl) ?_))
   (first | (refine AL.rd rfl rfl (rd_load_ref Try.underlying3 rfl rfl rfl rfl rfl rfl) ?_) | (refine AL.rd rfl rfl (rd_load_ad Try.underlying3 rfl rfl rfl rfl) ?_) | (refine AL.rd rfl rfl (rd_load_map Try.underlying3 rfl rfl rfl rfl rfl rfl (by assumption)) ?_) | (refine AL.rd rfl rfl (rd_load_flat Try.underlying3 rfl rfl rfl rfl rfl rfl (fun _ => rfl) (by assumption) rfl) ?_))
   (first | (refine AL.rp rfl rfl (rp_eqlT rfl rfl rfl (by first | assumption | omega | (dsimp only; omega))) ?_) | (refine AL.rp rfl rfl (rp_eqlF rfl rfl rfl (by first | assumption | omega | (dsimp only; omega))) ?_) | (refine AL.rp rfl rfl (rp_eql rfl rfl rfl) ?_))
   refine AL.rp rfl rfl (rp_assign rfl rfl) ?_
   refine AL.nil ?_
   try simp only [thenS, S.put]
   refine AW.ret ?_
   exact ⟨[_], ⟨rfl, trivial⟩, by simp [tupOf, h1, h2], by simp [tupOf, V.pure, V.has]⟩
  ·skip
   refine AW.seq ?_
   refine AW.region ?_
   refine AL.sm rfl (sm_box 1 rfl rfl rfl (by first | rfl | simp [S.clean, S.put, S.newObj, S.forget, V.has, V.hasL, junkIf, setL, V.cs, hasL_i, hasL_b, hasL_s, hasL_n, hasL_rep, hasL_flat, hasL_append, -List.map_set]) rfl) ?_
   refine AL.rp rfl rfl (rp_assign rfl rfl) ?_
   refine AL.nil ?_
   try simp only [thenS, S.put, S.newObj, setL, V.cs, List.length_cons, List.length_nil, List.take_succ_cons, List.take_zero, List.drop_succ_cons, List.drop_zero, List.drop_nil, List.nil_append, List.cons_append, List.append_nil, Nat.zero_add, Nat.reduceAdd, List.map_cons, List.map_nil, List.set_cons_zero, List.set_cons_succ, enum]
   refine AW.seq ?_
   refine AW.seq ?_
   refine AW.region ?_
   (first | (refine AL.rp rfl rfl (rp_field_ref Try.underlying95 rfl rfl rfl inf3 (by decide) rfl) ?_) | (refine AL.rp rfl rfl (rp_field_ad Try.underlying95 rfl rfl rfl inf3 (by decide) rfl) ?_))
   (first | (refine AL.rd rfl rfl (rd_load_ref Try.underlying3 rfl rfl rfl rfl rfl rfl) ?_) | (refine AL.rd rfl rfl (rd_load_ad Try.underlying3 rfl rfl rfl rfl) ?_) | (refine AL.rd rfl rfl (rd_load_map Try.underlying3 rfl rfl rfl rfl rfl rfl (by assumption)) ?_) | (refine AL.rd rfl rfl (rd_load_flat Try.underlying3 rfl rfl rfl rfl rfl rfl (fun _ => rfl) (by assumption) rfl) ?_))
   (first | (refine AL.rp rfl rfl (rp_eqlT rfl rfl rfl (by first | assumption | omega | (dsimp only; omega))) ?_) | (refine AL.rp rfl rfl (rp_eqlF rfl rfl rfl (by first | assumption | omega | (dsimp only; omega))) ?_) | (refine AL.rp rfl rfl (rp_eql rfl rfl rfl) ?_))
   refine AL.rp rfl rfl (rp_move rfl rfl) ?_
   (first | (refine AL.noV rfl rfl rfl rfl ?_) | (refine AL.noU rfl ⟨_, rfl, rfl⟩ rfl ?_) | (refine AL.rpy rfl rfl rfl (rp_field_ref Try.underlying95 rfl rfl rfl inf3 (by decide) rfl) ?_) | (refine AL.rpy rfl rfl rfl (rp_field_ad Try.underlying95 rfl rfl rfl inf3 (by decide) rfl) ?_))
   (first | (refine AL.noV rfl rfl rfl rfl ?_) | (refine AL.noU rfl ⟨_, rfl, rfl⟩ rfl ?_) | (refine AL.rdy rfl rfl rfl (rd_load_ref Try.underlying3 rfl rfl rfl rfl rfl rfl) ?_) | (refine AL.rdy rfl rfl rfl (rd_load_ad Try.underlying3 rfl rfl rfl rfl) ?_) | (refine AL.rdy rfl rfl rfl (rd_load_map Try.underlying3 rfl rfl rfl rfl rfl rfl (by assumption)) ?_) | (refine AL.rdy rfl rfl rfl (rd_load_flat Try.underlying3 rfl rfl rfl rfl rfl rfl (fun _ => rfl) (by assumption) rfl) ?_))
   (first | (refine AL.noV rfl rfl rfl rfl ?_) | (refine AL.noU rfl ⟨_, rfl, rfl⟩ rfl ?_) | (refine AL.rpy rfl rfl rfl (rp_eqlT rfl rfl rfl (by first | assumption | omega | (dsimp only; omega))) ?_) | (refine AL.rpy rfl rfl rfl (rp_eqlF rfl rfl rfl (by first | assumption | omega | (dsimp only; omega))) ?_) | (refine AL.rpy rfl rfl rfl (rp_eql rfl rfl rfl) ?_))
   refine AL.rp rfl rfl (rp_pick rfl rfl rfl) ?_
   refine AL.nil ?_
   try simp only [thenS, S.put]
   refine AW.condT rfl ?_
   refine AW.seq ?_
   refine AW.region ?_
   (first | (refine AL.rp rfl rfl (rp_field_ref Try.underlying95 rfl rfl rfl inf3 (by decide) rfl) ?_) | (refine AL.rp rfl rfl (rp_field_ad Try.underlying95 rfl rfl rfl inf3 (by decide) rfl) ?_))
   (first | (refine AL.rd rfl rfl (rd_load_ref Try.underlying3 rfl rfl rfl rfl rfl rfl) ?_) | (refine AL.rd rfl rfl (rd_load_ad Try.underlying3 rfl rfl rfl rfl) ?_) | (refine AL.rd rfl rfl (rd_load_map Try.underlying3 rfl rfl rfl rfl rfl rfl (by assumption)) ?_) | (refine AL.rd rfl rfl (rd_load_flat Try.underlying3 rfl rfl rfl rfl rfl rfl (fun _ => rfl) (by assumption) rfl) ?_))
   (first | (refine AL.rp rfl rfl (rp_field_ref Try.underlying95 rfl rfl rfl inf3 (by decide) rfl) ?_) | (refine AL.rp rfl rfl (rp_field_ad Try.underlying95 rfl rfl rfl inf3 (by decide) rfl) ?_))
   (first | (refine AL.rd rfl rfl (rd_load_ref Try.underlying3 rfl rfl rfl rfl rfl rfl) ?_) | (refine AL.rd rfl rfl (rd_load_ad Try.underlying3 rfl rfl rfl rfl) ?_) | (refine AL.rd rfl rfl (rd_load_map Try.underlying3 rfl rfl rfl rfl rfl rfl (by assumption)) ?_) | (refine AL.rd rfl rfl (rd_load_flat Try.underlying3 rfl rfl rfl rfl rfl rfl (fun _ => rfl) (by assumption) rfl) ?_))
   (first | (refine AL.rp rfl rfl (rp_eqlT rfl rfl rfl (by first | assumption | omega | (dsimp only; omega))) ?_) | (refine AL.rp rfl rfl (rp_eqlF rfl rfl rfl (by first | assumption | omega | (dsimp only; omega))) ?_) | (refine AL.rp rfl rfl (rp_eql rfl rfl rfl) ?_))
   refine AL.rp rfl rfl (rp_assign rfl rfl) ?_
   refine AL.nil ?_
   try simp only [thenS, S.put]
   refine AW.ret ?_
   exact ⟨[_], ⟨rfl, trivial⟩, by simp [tupOf, h1, h2], by simp [tupOf, V.pure, V.has]⟩
 ·by_cases h2 : b = 1000000001
  ·skip
   refine AW.seq ?_
   refine AW.region ?_
   refine AL.sm rfl (sm_box 1 rfl rfl rfl (by first | rfl | simp [S.clean, S.put, S.newObj, S.forget, V.has, V.hasL, junkIf, setL, V.cs, hasL_i, hasL_b, hasL_s, hasL_n, hasL_rep, hasL_flat, hasL_append, -List.map_set]) rfl) ?_
   refine AL.rp rfl rfl (rp_assign rfl rfl) ?_
   refine AL.nil ?_
   try simp only [thenS, S.put, S.newObj, setL, V.cs, List.length_cons, List.length_nil, List.take_succ_cons, List.take_zero, List.drop_succ_cons, List.drop_zero, List.drop_nil, List.nil_append, List.cons_append, List.append_nil, Nat.zero_add, Nat.reduceAdd, List.map_cons, List.map_nil, List.set_cons_zero, List.set_cons_succ, enum]
   refine AW.seq ?_
   refine AW.seq ?_
   refine AW.region ?_
   (first | (refine AL.rp rfl rfl (rp_field_ref Try.underlying95 rfl rfl rfl inf3 (by decide) rfl) ?_) | (refine AL.rp rfl rfl (rp_field_ad Try.underlying95 rfl rfl rfl inf3 (by decide) rfl) ?_))
   (first | (refine AL.rd rfl rfl (rd_load_ref Try.underlying3 rfl rfl rfl rfl rfl rfl) ?_) | (refine AL.rd rfl rfl (rd_load_ad Try.underlying3 rfl rfl rfl rfl) ?_) | (refine AL.rd rfl rfl (rd_load_map Try.underlying3 rfl rfl rfl rfl rfl rfl (by assumption)) ?_) | (refine AL.rd rfl rfl (rd_load_flat Try.underlying3 rfl rfl rfl rfl rfl rfl (fun _ => rfl) (by assumption) rfl) ?_))
   (first | (refine AL.rp rfl rfl (rp_eqlT rfl rfl rfl (by first | assumption | omega | (dsimp only; omega))) ?_) | (refine AL.rp rfl rfl (rp_eqlF rfl rfl rfl (by first | assumption | omega | (dsimp only; omega))) ?_) | (refine AL.rp rfl rfl (rp_eql rfl rfl rfl) ?_))
   refine AL.rp rfl rfl (rp_move rfl rfl) ?_
   (first | (refine AL.noV rfl rfl rfl rfl ?_) | (refine AL.noU rfl ⟨_, rfl, rfl⟩ rfl ?_) | (refine AL.rpy rfl rfl rfl (rp_field_ref Try.underlying95 rfl rfl rfl inf3 (by decide) rfl) ?_) | (refine AL.rpy rfl rfl rfl (rp_field_ad Try.underlying95 rfl rfl rfl inf3 (by decide) rfl) ?_))
   (first | (refine AL.noV rfl rfl rfl rfl ?_) | (refine AL.noU rfl ⟨_, rfl, rfl⟩ rfl ?_) | (refine AL.rdy rfl rfl rfl (rd_load_ref Try.underlying3 rfl rfl rfl rfl rfl rfl) ?_) | (refine AL.rdy rfl rfl rfl (rd_load_ad Try.underlying3 rfl rfl rfl rfl) ?_) | (refine AL.rdy rfl rfl rfl (rd_load_map Try.underlying3 rfl rfl rfl rfl rfl rfl (by assumption)) ?_) | (refine AL.rdy rfl rfl rfl (rd_load_flat Try.underlying3 rfl rfl rfl rfl rfl rfl (fun _ => rfl) (by assumption) rfl) ?_))
   (first | (refine AL.noV rfl rfl rfl rfl ?_) | (refine AL.noU rfl ⟨_, rfl, rfl⟩ rfl ?_) | (refine AL.rpy rfl rfl rfl (rp_eqlT rfl rfl rfl (by first | assumption | omega | (dsimp only; omega))) ?_) | (refine AL.rpy rfl rfl rfl (rp_eqlF rfl rfl rfl (by first | assumption | omega | (dsimp only; omega))) ?_) | (refine AL.rpy rfl rfl rfl (rp_eql rfl rfl rfl) ?_))
   refine AL.rp rfl rfl (rp_pick rfl rfl rfl) ?_
   refine AL.nil ?_
   try simp only [thenS, S.put]
   refine AW.condT rfl ?_
   refine AW.seq ?_
   refine AW.region ?_
   (first | (refine AL.rp rfl rfl (rp_field_ref Try.underlying95 rfl rfl rfl inf3 (by decide) rfl) ?_) | (refine AL.rp rfl rfl (rp_field_ad Try.underlying95 rfl rfl rfl inf3 (by decide) rfl) ?_))
   (first | (refine AL.rd rfl rfl (rd_load_ref Try.underlying3 rfl rfl rfl rfl rfl rfl) ?_) | (refine AL.rd rfl rfl (rd_load_ad Try.underlying3 rfl rfl rfl rfl) ?_) | (refine AL.rd rfl rfl (rd_load_map Try.underlying3 rfl rfl rfl rfl rfl rfl (by assumption)) ?_) | (refine AL.rd rfl rfl (rd_load_flat Try.underlying3 rfl rfl rfl rfl rfl rfl (fun _ => rfl) (by assumption) rfl) ?_))
   (first | (refine AL.rp rfl rfl (rp_field_ref Try.underlying95 rfl rfl rfl inf3 (by decide) rfl) ?_) | (refine AL.rp rfl rfl (rp_field_ad Try.underlying95 rfl rfl rfl inf3 (by decide) rfl) ?_))
   (first | (refine AL.rd rfl rfl (rd_load_ref Try.underlying3 rfl rfl rfl rfl rfl rfl) ?_) | (refine AL.rd rfl rfl (rd_load_ad Try.underlying3 rfl rfl rfl rfl) ?_) | (refine AL.rd rfl rfl (rd_load_map Try.underlying3 rfl rfl rfl rfl rfl rfl (by assumption)) ?_) | (refine AL.rd rfl rfl (rd_load_flat Try.underlying3 rfl rfl rfl rfl rfl rfl (fun _ => rfl) (by assumption) rfl) ?_))
   (first | (refine AL.rp rfl rfl (rp_eqlT rfl rfl rfl (by first | assumption | omega | (dsimp only; omega))) ?_) | (refine AL.rp rfl rfl (rp_eqlF rfl rfl rfl (by first | assumption | omega | (dsimp only; omega))) ?_) | (refine AL.rp rfl rfl (rp_eql rfl rfl rfl) ?_))
   refine AL.rp rfl rfl (rp_assign rfl rfl) ?_
   refine AL.nil ?_
   try simp only [thenS, S.put]
   refine AW.ret ?_
   exact ⟨[_], ⟨rfl, trivial⟩, by simp [tupOf, h1, h2], by simp [tupOf, V.pure, V.has]⟩
  ·by_cases h3 : 0 ≤ a
   ·by_cases h4 : a ≤ 1000000000
    ·by_cases h5 : 0 ≤ b
     ·by_cases h6 : b ≤ 1000000000
      ·skip
       refine AW.seq ?_
       refine AW.region ?_
       refine AL.sm rfl (sm_box 1 rfl rfl rfl (by first | rfl | simp [S.clean, S.put, S.newObj, S.forget, V.has, V.hasL, junkIf, setL, V.cs, hasL_i, hasL_b, hasL_s, hasL_n, hasL_rep, hasL_flat, hasL_append, -List.map_set]) rfl) ?_
       refine AL.rp rfl rfl (rp_assign rfl rfl) ?_
       refine AL.nil ?_
       try simp only [thenS, S.put, S.newObj, setL, V.cs, List.length_cons, List.length_nil, List.take_succ_cons, List.take_zero, List.drop_succ_cons, List.drop_zero, List.drop_nil, List.nil_append, List.cons_append, List.append_nil, Nat.zero_add, Nat.reduceAdd, List.map_cons, List.map_nil, List.set_cons_zero, List.set_cons_succ, enum]
       refine AW.seq ?_
       refine AW.seq ?_
       refine AW.region ?_
       (first | (refine AL.rp rfl rfl (rp_field_ref Try.underlying95 rfl rfl rfl inf3 (by decide) rfl) ?_) | (refine AL.rp rfl rfl (rp_field_ad Try.underlying95 rfl rfl rfl inf3 (by decide) rfl) ?_))
       (first | (refine AL.rd rfl rfl (rd_load_ref Try.underlying3 rfl rfl rfl rfl rfl rfl) ?_) | (refine AL.rd rfl rfl (rd_load_ad Try.underlying3 rfl rfl rfl rfl) ?_) | (refine AL.rd rfl rfl (rd_load_map Try.underlying3 rfl rfl rfl rfl rfl rfl (by assumption)) ?_) | (refine AL.rd rfl rfl (rd_load_flat Try.underlying3 rfl rfl rfl rfl rfl rfl (fun _ => rfl) (by assumption) rfl) ?_))
       (first | (refine AL.rp rfl rfl (rp_eqlT rfl rfl rfl (by first | assumption | omega | (dsimp only; omega))) ?_) | (refine AL.rp rfl rfl (rp_eqlF rfl rfl rfl (by first | assumption | omega | (dsimp only; omega))) ?_) | (refine AL.rp rfl rfl (rp_eql rfl rfl rfl) ?_))
       refine AL.rp rfl rfl (rp_move rfl rfl) ?_
       (first | (refine AL.noV rfl rfl rfl rfl ?_) | (refine AL.noU rfl ⟨_, rfl, rfl⟩ rfl ?_) | (refine AL.rpy rfl rfl rfl (rp_field_ref Try.underlying95 rfl rfl rfl inf3 (by decide) rfl) ?_) | (refine AL.rpy rfl rfl rfl (rp_field_ad Try.underlying95 rfl rfl rfl inf3 (by decide) rfl) ?_))
       (first | (refine AL.noV rfl rfl rfl rfl ?_) | (refine AL.noU rfl ⟨_, rfl, rfl⟩ rfl ?_) | (refine AL.rdy rfl rfl rfl (rd_load_ref Try.underlying3 rfl rfl rfl rfl rfl rfl) ?_) | (refine AL.rdy rfl rfl rfl (rd_load_ad Try.underlying3 rfl rfl rfl rfl) ?_) | (refine AL.rdy rfl rfl rfl (rd_load_map Try.underlying3 rfl rfl rfl rfl rfl rfl (by assumption)) ?_) | (refine AL.rdy rfl rfl rfl (rd_load_flat Try.underlying3 rfl rfl rfl rfl rfl rfl (fun _ => rfl) (by assumption) rfl) ?_))
       (first | (refine AL.noV rfl rfl rfl rfl ?_) | (refine AL.noU rfl ⟨_, rfl, rfl⟩ rfl ?_) | (refine AL.rpy rfl rfl rfl (rp_eqlT rfl rfl rfl (by first | assumption | omega | (dsimp only; omega))) ?_) | (refine AL.rpy rfl rfl rfl (rp_eqlF rfl rfl rfl (by first | assumption | omega | (dsimp only; omega))) ?_) | (refine AL.rpy rfl rfl rfl (rp_eql rfl rfl rfl) ?_))
       refine AL.rp rfl rfl (rp_pick rfl rfl rfl) ?_
       refine AL.nil ?_
       try simp only [thenS, S.put]
       refine AW.condF rfl ?_
       refine AW.skip ?_
       try simp only [thenS]
       refine AW.seq ?_
       refine AW.region ?_
       (first | (refine AL.rp rfl rfl (rp_field_ref Try.underlying95 rfl rfl rfl inf3 (by decide) rfl) ?_) | (refine AL.rp rfl rfl (rp_field_ad Try.underlying95 rfl rfl rfl inf3 (by decide) rfl) ?_))
       (first | (refine AL.rd rfl rfl (rd_load_ref Try.underlying3 rfl rfl rfl rfl rfl rfl) ?_) | (refine AL.rd rfl rfl (rd_load_ad Try.underlying3 rfl rfl rfl rfl) ?_) | (refine AL.rd rfl rfl (rd_load_map Try.underlying3 rfl rfl rfl rfl rfl rfl (by assumption)) ?_) | (refine AL.rd rfl rfl (rd_load_flat Try.underlying3 rfl rfl rfl rfl rfl rfl (fun _ => rfl) (by assumption) rfl) ?_))
       (first | (refine AL.rp rfl rfl (rp_geqT rfl rfl rfl (by first | assumption | omega | (dsimp only; omega))) ?_) | (refine AL.rp rfl rfl (rp_geqF rfl rfl rfl (by first | assumption | omega | (dsimp only; omega))) ?_) | (refine AL.rp rfl rfl (rp_geq rfl rfl rfl) ?_))
       refine AL.rp rfl rfl (rp_move rfl rfl) ?_
       (first | (refine AL.noV rfl rfl rfl rfl ?_) | (refine AL.noU rfl ⟨_, rfl, rfl⟩ rfl ?_) | (refine AL.rpy rfl rfl rfl (rp_field_ref Try.underlying95 rfl rfl rfl inf3 (by decide) rfl) ?_) | (refine AL.rpy rfl rfl rfl (rp_field_ad Try.underlying95 rfl rfl rfl inf3 (by decide) rfl) ?_))
       (first | (refine AL.noV rfl rfl rfl rfl ?_) | (refine AL.noU rfl ⟨_, rfl, rfl⟩ rfl ?_) | (refine AL.rdy rfl rfl rfl (rd_load_ref Try.underlying3 rfl rfl rfl rfl rfl rfl) ?_) | (refine AL.rdy rfl rfl rfl (rd_load_ad Try.underlying3 rfl rfl rfl rfl) ?_) | (refine AL.rdy rfl rfl rfl (rd_load_map Try.underlying3 rfl rfl rfl rfl rfl rfl (by assumption)) ?_) | (refine AL.rdy rfl rfl rfl (rd_load_flat Try.underlying3 rfl rfl rfl rfl rfl rfl (fun _ => rfl) (by assumption) rfl) ?_))
       (first | (refine AL.noV rfl rfl rfl rfl ?_) | (refine AL.noU rfl ⟨_, rfl, rfl⟩ rfl ?_) | (refine AL.rpy rfl rfl rfl (rp_leqT rfl rfl rfl (by first | assumption | omega | (dsimp only; omega))) ?_) | (refine AL.rpy rfl rfl rfl (rp_leqF rfl rfl rfl (by first | assumption | omega | (dsimp only; omega))) ?_) | (refine AL.rpy rfl rfl rfl (rp_leq rfl rfl rfl) ?_))
       refine AL.rp rfl rfl (rp_pick rfl rfl rfl) ?_
       refine AL.rp rfl rfl (rp_move rfl rfl) ?_
       (first | (refine AL.noV rfl rfl rfl rfl ?_) | (refine AL.noU rfl ⟨_, rfl, rfl⟩ rfl ?_) | (refine AL.rpy rfl rfl rfl (rp_field_ref Try.underlying95 rfl rfl rfl inf3 (by decide) rfl) ?_) | (refine AL.rpy rfl rfl rfl (rp_field_ad Try.underlying95 rfl rfl rfl inf3 (by decide) rfl) ?_))
       (first | (refine AL.noV rfl rfl rfl rfl ?_) | (refine AL.noU rfl ⟨_, rfl, rfl⟩ rfl ?_) | (refine AL.rdy rfl rfl rfl (rd_load_ref Try.underlying3 rfl rfl rfl rfl rfl rfl) ?_) | (refine AL.rdy rfl rfl rfl (rd_load_ad Try.underlying3 rfl rfl rfl rfl) ?_) | (refine AL.rdy rfl rfl rfl (rd_load_map Try.underlying3 rfl rfl rfl rfl rfl rfl (by assumption)) ?_) | (refine AL.rdy rfl rfl rfl (rd_load_flat Try.underlying3 rfl rfl rfl rfl rfl rfl (fun _ => rfl) (by assumption) rfl) ?_))
       (first | (refine AL.noV rfl rfl rfl rfl ?_) | (refine AL.noU rfl ⟨_, rfl, rfl⟩ rfl ?_) | (refine AL.rpy rfl rfl rfl (rp_geqT rfl rfl rfl (by first | assumption | omega | (dsimp only; omega))) ?_) | (refine AL.rpy rfl rfl rfl (rp_geqF rfl rfl rfl (by first | assumption | omega | (dsimp only; omega))) ?_) | (refine AL.rpy rfl rfl rfl (rp_geq rfl rfl rfl) ?_))
       refine AL.rp rfl rfl (rp_pick rfl rfl rfl) ?_
       refine AL.rp rfl rfl (rp_move rfl rfl) ?_
       (first | (refine AL.noV rfl rfl rfl rfl ?_) | (refine AL.noU rfl ⟨_, rfl, rfl⟩ rfl ?_) | (refine AL.rpy rfl rfl rfl (rp_field_ref Try.underlying95 rfl rfl rfl inf3 (by decide) rfl) ?_) | (refine AL.rpy rfl rfl rfl (rp_field_ad Try.underlying95 rfl rfl rfl inf3 (by decide) rfl) ?_))
       (first | (refine AL.noV rfl rfl rfl rfl ?_) | (refine AL.noU rfl ⟨_, rfl, rfl⟩ rfl ?_) | (refine AL.rdy rfl rfl rfl (rd_load_ref Try.underlying3 rfl rfl rfl rfl rfl rfl) ?_) | (refine AL.rdy rfl rfl rfl (rd_load_ad Try.underlying3 rfl rfl rfl rfl) ?_) | (refine AL.rdy rfl rfl rfl (rd_load_map Try.underlying3 rfl rfl rfl rfl rfl rfl (by assumption)) ?_) | (refine AL.rdy rfl rfl rfl (rd_load_flat Try.underlying3 rfl rfl rfl rfl rfl rfl (fun _ => rfl) (by assumption) rfl) ?_))
       (first | (refine AL.noV rfl rfl rfl rfl ?_) | (refine AL.noU rfl ⟨_, rfl, rfl⟩ rfl ?_) | (refine AL.rpy rfl rfl rfl (rp_leqT rfl rfl rfl (by first | assumption | omega | (dsimp only; omega))) ?_) | (refine AL.rpy rfl rfl rfl (rp_leqF rfl rfl rfl (by first | assumption | omega | (dsimp only; omega))) ?_) | (refine AL.rpy rfl rfl rfl (rp_leq rfl rfl rfl) ?_))
       refine AL.rp rfl rfl (rp_pick rfl rfl rfl) ?_
       refine AL.rp rfl rfl (rp_assign rfl rfl) ?_
       refine AL.nil ?_
       try simp only [thenS, S.put]
       refine AW.ret ?_
       exact ⟨[_], ⟨rfl, trivial⟩, by simp [tupOf, h1, h2, h3, h4, h5, h6], by simp [tupOf, V.pure, V.has]⟩
      ·skip
       refine AW.seq ?_
       refine AW.region ?_
       refine AL.sm rfl (sm_box 1 rfl rfl rfl (by first | rfl | simp [S.clean, S.put, S.newObj, S.forget, V.has, V.hasL, junkIf, setL, V.cs, hasL_i, hasL_b, hasL_s, hasL_n, hasL_rep, hasL_flat, hasL_append, -List.map_set]) rfl) ?_
       refine AL.rp rfl rfl (rp_assign rfl rfl) ?_
       refine AL.nil ?_
       try simp only [thenS, S.put, S.newObj, setL, V.cs, List.length_cons, List.length_nil, List.take_succ_cons, List.take_zero, List.drop_succ_cons, List.drop_zero, List.drop_nil, List.nil_append, List.cons_append, List.append_nil, Nat.zero_add, Nat.reduceAdd, List.map_cons, List.map_nil, List.set_cons_zero, List.set_cons_succ, enum]
       refine AW.seq ?_
       refine AW.seq ?_
       refine AW.region ?_
       (first | (refine AL.rp rfl rfl (rp_field_ref Try.underlying95 rfl rfl rfl inf3 (by decide) rfl) ?_) | (refine AL.rp rfl rfl (rp_field_ad Try.underlying95 rfl rfl rfl inf3 (by decide) rfl) ?_))
       (first | (refine AL.rd rfl rfl (rd_load_ref Try.underlying3 rfl rfl rfl rfl rfl rfl) ?_) | (refine AL.rd rfl rfl (rd_load_ad Try.underlying3 rfl rfl rfl rfl) ?_) | (refine AL.rd rfl rfl (rd_load_map Try.underlying3 rfl rfl rfl rfl rfl rfl (by assumption)) ?_) | (refine AL.rd rfl rfl (rd_load_flat Try.underlying3 rfl rfl rfl rfl rfl rfl (fun _ => rfl) (by assumption) rfl) ?_))
       (first | (refine AL.rp rfl rfl (rp_eqlT rfl rfl rfl (by first | assumption | omega | (dsimp only; omega))) ?_) | (refine AL.rp rfl rfl (rp_eqlF rfl rfl rfl (by first | assumption | omega | (dsimp only; omega))) ?_) | (refine AL.rp rfl rfl (rp_eql rfl rfl rfl) ?_))
       refine AL.rp rfl rfl (rp_move rfl rfl) ?_
       (first | (refine AL.noV rfl rfl rfl rfl ?_) | (refine AL.noU rfl ⟨_, rfl, rfl⟩ rfl ?_) | (refine AL.rpy rfl rfl rfl (rp_field_ref Try.underlying95 rfl rfl rfl inf3 (by decide) rfl) ?_) | (refine AL.rpy rfl rfl rfl (rp_field_ad Try.underlying95 rfl rfl rfl inf3 (by decide) rfl) ?_))
       (first | (refine AL.noV rfl rfl rfl rfl ?_) | (refine AL.noU rfl ⟨_, rfl, rfl⟩ rfl ?_) | (refine AL.rdy rfl rfl rfl (rd_load_ref Try.underlying3 rfl rfl rfl rfl rfl rfl) ?_) | (refine AL.rdy rfl rfl rfl (rd_load_ad Try.underlying3 rfl rfl rfl rfl) ?_) | (refine AL.rdy rfl rfl rfl (rd_load_map Try.underlying3 rfl rfl rfl rfl rfl rfl (by assumption)) ?_) | (refine AL.rdy rfl rfl rfl (rd_load_flat Try.underlying3 rfl rfl rfl rfl rfl rfl (fun _ => rfl) (by assumption) rfl) ?_))
       (first | (refine AL.noV rfl rfl rfl rfl ?_) | (refine AL.noU rfl ⟨_, rfl, rfl⟩ rfl ?_) | (refine AL.rpy rfl rfl rfl (rp_eqlT rfl rfl rfl (by first | assumption | omega | (dsimp only; omega))) ?_) | (refine AL.rpy rfl rfl rfl (rp_eqlF rfl rfl rfl (by first | assumption | omega | (dsimp only; omega))) ?_) | (refine AL.rpy rfl rfl rfl (rp_eql rfl rfl rfl) ?_))
       refine AL.rp rfl rfl (rp_pick rfl rfl rfl) ?_
       refine AL.nil ?_
       try simp only [thenS, S.put]
       refine AW.condF rfl ?_
       refine AW.skip ?_
       try simp only [thenS]
       refine AW.seq ?_
       refine AW.region ?_
       (first | (refine AL.rp rfl rfl (rp_field_ref Try.underlying95 rfl rfl rfl inf3 (by decide) rfl) ?_) | (refine AL.rp rfl rfl (rp_field_ad Try.underlying95 rfl rfl rfl inf3 (by decide) rfl) ?_))
       (first | (refine AL.rd rfl rfl (rd_load_ref Try.underlying3 rfl rfl rfl rfl rfl rfl) ?_) | (refine AL.rd rfl rfl (rd_load_ad Try.underlying3 rfl rfl rfl rfl) ?_) | (refine AL.rd rfl rfl (rd_load_map Try.underlying3 rfl rfl rfl rfl rfl rfl (by assumption)) ?_) | (refine AL.rd rfl rfl (rd_load_flat Try.underlying3 rfl rfl rfl rfl rfl rfl (fun _ => rfl) (by assumption) rfl) ?_))
       (first | (refine AL.rp rfl rfl (rp_geqT rfl rfl rfl (by first | assumption | omega | (dsimp only; omega))) ?_) | (refine AL.rp rfl rfl (rp_geqF rfl rfl rfl (by first | assumption | omega | (dsimp only; omega))) ?_) | (refine AL.rp rfl rfl (rp_geq rfl rfl rfl) ?_))
       refine AL.rp rfl rfl (rp_move rfl rfl) ?_
       (first | (refine AL.noV rfl rfl rfl rfl ?_) | (refine AL.noU rfl ⟨_, rfl, rfl⟩ rfl ?_) | (refine AL.rpy rfl rfl rfl (rp_field_ref Try.underlying95 rfl rfl rfl inf3 (by decide) rfl) ?_) | (refine AL.rpy rfl rfl rfl (rp_field_ad Try.underlying95 rfl rfl rfl inf3 (by decide) rfl) ?_))
       (first | (refine AL.noV rfl rfl rfl rfl ?_) | (refine AL.noU rfl ⟨_, rfl, rfl⟩ rfl ?_) | (refine AL.rdy rfl rfl rfl (rd_load_ref Try.underlying3 rfl rfl rfl rfl rfl rfl) ?_) | (refine AL.rdy rfl rfl rfl (rd_load_ad Try.underlying3 rfl rfl rfl rfl) ?_) | (refine AL.rdy rfl rfl rfl (rd_load_map Try.underlying3 rfl rfl rfl rfl rfl rfl (by assumption)) ?_) | (refine AL.rdy rfl rfl rfl (rd_load_flat Try.underlying3 rfl rfl rfl rfl rfl rfl (fun _ => rfl) (by assumption) rfl) ?_))
       (first | (refine AL.noV rfl rfl rfl rfl ?_) | (refine AL.noU rfl ⟨_, rfl, rfl⟩ rfl ?_) | (refine AL.rpy rfl rfl rfl (rp_leqT rfl rfl rfl (by first | assumption | omega | (dsimp only; omega))) ?_) | (refine AL.rpy rfl rfl rfl (rp_leqF rfl rfl rfl (by first | assumption | omega | (dsimp only; omega))) ?_) | (refine AL.rpy rfl rfl rfl (rp_leq rfl rfl rfl) ?_))
       refine AL.rp rfl rfl (rp_pick rfl rfl rfl) ?_
       refine AL.rp rfl rfl (rp_move rfl rfl) ?_
       (first | (refine AL.noV rfl rfl rfl rfl ?_) | (refine AL.noU rfl ⟨_, rfl, rfl⟩ rfl ?_) | (refine AL.rpy rfl rfl rfl (rp_field_ref Try.underlying95 rfl rfl rfl inf3 (by decide) rfl) ?_) | (refine AL.rpy rfl rfl rfl (rp_field_ad Try.underlying95 rfl rfl rfl inf3 (by decide) rfl) ?_))
       (first | (refine AL.noV rfl rfl rfl rfl ?_) | (refine AL.noU rfl ⟨_, rfl, rfl⟩ rfl ?_) | (refine AL.rdy rfl rfl rfl (rd_load_ref Try.underlying3 rfl rfl rfl rfl rfl rfl) ?_) | (refine AL.rdy rfl rfl rfl (rd_load_ad Try.underlying3 rfl rfl rfl rfl) ?_) | (refine AL.rdy rfl rfl rfl (rd_load_map Try.underlying3 rfl rfl rfl rfl rfl rfl (by assumption)) ?_) | (refine AL.rdy rfl rfl rfl (rd_load_flat Try.underlying3 rfl rfl rfl rfl rfl rfl (fun _ => rfl) (by assumption) rfl) ?_))
       (first | (refine AL.noV rfl rfl rfl rfl ?_) | (refine AL.noU rfl ⟨_, rfl, rfl⟩ rfl ?_) | (refine AL.rpy rfl rfl rfl (rp_geqT rfl rfl rfl (by first | assumption | omega | (dsimp only; omega))) ?_) | (refine AL.rpy rfl rfl rfl (rp_geqF rfl rfl rfl (by first | assumption | omega | (dsimp only; omega))) ?_) | (refine AL.rpy rfl rfl rfl (rp_geq rfl rfl rfl) ?_))
       refine AL.rp rfl rfl (rp_pick rfl rfl rfl) ?_
       refine AL.rp rfl rfl (rp_move rfl rfl) ?_
       (first | (refine AL.noV rfl rfl rfl rfl ?_) | (refine AL.noU rfl ⟨_, rfl, rfl⟩ rfl ?_) | (refine AL.rpy rfl rfl rfl (rp_field_ref Try.underlying95 rfl rfl rfl inf3 (by decide) rfl) ?_) | (refine AL.rpy rfl rfl rfl (rp_field_ad Try.underlying95 rfl rfl rfl inf3 (by decide) rfl) ?_))
       (first | (refine AL.noV rfl rfl rfl rfl ?_) | (refine AL.noU rfl ⟨_, rfl, rfl⟩ rfl ?_) | (refine AL.rdy rfl rfl rfl (rd_load_ref Try.underlying3 rfl rfl rfl rfl rfl rfl) ?_) | (refine AL.rdy rfl rfl rfl (rd_load_ad Try.underlying3 rfl rfl rfl rfl) ?_) | (refine AL.rdy rfl rfl rfl (rd_load_map Try.underlying3 rfl rfl rfl rfl rfl rfl (by assumption)) ?_) | (refine AL.rdy rfl rfl rfl (rd_load_flat Try.underlying3 rfl rfl rfl rfl rfl rfl (fun _ => rfl) (by assumption) rfl) ?_))
       (first | (refine AL.noV rfl rfl rfl rfl ?_) | (refine AL.noU rfl ⟨_, rfl, rfl⟩ rfl ?_) | (refine AL.rpy rfl rfl rfl (rp_leqT rfl rfl rfl (by first | assumption | omega | (dsimp only; omega))) ?_) | (refine AL.rpy rfl rfl rfl (rp_leqF rfl rfl rfl (by first | assumption | omega | (dsimp only; omega))) ?_) | (refine AL.rpy rfl rfl rfl (rp_leq rfl rfl rfl) ?_))
       refine AL.rp rfl rfl (rp_pick rfl rfl rfl) ?_
       refine AL.rp rfl rfl (rp_assign rfl rfl) ?_
       refine AL.nil ?_
       try simp only [thenS, S.put]
       refine AW.ret ?_
       exact ⟨[_], ⟨rfl, trivial⟩, by simp [tupOf, h1, h2, h3, h4, h5, h6], by simp [tupOf, V.pure, V.has]⟩
     ·skip
      refine AW.seq ?_
      refine AW.region ?_
      refine AL.sm rfl (sm_box 1 rfl rfl rfl (by first | rfl | simp [S.clean, S.put, S.newObj, S.forget, V.has, V.hasL, junkIf, setL, V.cs, hasL_i, hasL_b, hasL_s, hasL_n, hasL_rep, hasL_flat, hasL_append, -List.map_set]) rfl) ?_
      refine AL.rp rfl rfl (rp_assign rfl rfl) ?_
      refine AL.nil ?_
      try simp only [thenS, S.put, S.newObj, setL, V.cs, List.length_cons, List.length_nil, List.take_succ_cons, List.take_zero, List.drop_succ_cons, List.drop_zero, List.drop_nil, List.nil_append, List.cons_append, List.append_nil, Nat.zero_add, Nat.reduceAdd, List.map_cons, List.map_nil, List.set_cons_zero, List.set_cons_succ, enum]
      refine AW.seq ?_
      refine AW.seq ?_
      refine AW.region ?_
      (first | (refine AL.rp rfl rfl (rp_field_ref Try.underlying95 rfl rfl rfl inf3 (by decide) rfl) ?_) | (refine AL.rp rfl rfl (rp_field_ad Try.underlying95 rfl rfl rfl inf3 (by decide) rfl) ?_))
      (first | (refine AL.rd rfl rfl (rd_load_ref Try.underlying3 rfl rfl rfl rfl rfl rfl) ?_) | (refine AL.rd rfl rfl (rd_load_ad Try.underlying3 rfl rfl rfl rfl) ?_) | (refine AL.rd rfl rfl (rd_load_map Try.underlying3 rfl rfl rfl rfl rfl rfl (by assumption)) ?_) | (refine AL.rd rfl rfl (rd_load_flat Try.underlying3 rfl rfl rfl rfl rfl rfl (fun _ => rfl) (by assumption) rfl) ?_))
      (first | (refine AL.rp rfl rfl (rp_eqlT rfl rfl rfl (by first | assumption | omega | (dsimp only; omega))) ?_) | (refine AL.rp rfl rfl (rp_eqlF rfl rfl rfl (by first | assumption | omega | (dsimp only; omega))) ?_) | (refine AL.rp rfl rfl (rp_eql rfl rfl rfl) ?_))
      refine AL.rp rfl rfl (rp_move rfl rfl) ?_
      (first | (refine AL.noV rfl rfl rfl rfl ?_) | (refine AL.noU rfl ⟨_, rfl, rfl⟩ rfl ?_) | (refine AL.rpy rfl rfl rfl (rp_field_ref Try.underlying95 rfl rfl rfl inf3 (by decide) rfl) ?_) | (refine AL.rpy rfl rfl rfl (rp_field_ad Try.underlying95 rfl rfl rfl inf3 (by decide) rfl) ?_))
      (first | (refine AL.noV rfl rfl rfl rfl ?_) | (refine AL.noU rfl ⟨_, rfl, rfl⟩ rfl ?_) | (refine AL.rdy rfl rfl rfl (rd_load_ref Try.underlying3 rfl rfl rfl rfl rfl rfl) ?_) | (refine AL.rdy rfl rfl rfl (rd_load_ad Try.underlying3 rfl rfl rfl rfl) ?_) | (refine AL.rdy rfl rfl rfl (rd_load_map Try.underlying3 rfl rfl rfl rfl rfl rfl (by assumption)) ?_) | (refine AL.rdy rfl rfl rfl (rd_load_flat Try.underlying3 rfl rfl rfl rfl rfl rfl (fun _ => rfl) (by assumption) rfl) ?_))
      (first | (refine AL.noV rfl rfl rfl rfl ?_) | (refine AL.noU rfl ⟨_, rfl, rfl⟩ rfl ?_) | (refine AL.rpy rfl rfl rfl (rp_eqlT rfl rfl rfl (by first | assumption | omega | (dsimp only; omega))) ?_) | (refine AL.rpy rfl rfl rfl (rp_eqlF rfl rfl rfl (by first | assumption | omega | (dsimp only; omega))) ?_) | (refine AL.rpy rfl rfl rfl (rp_eql rfl rfl rfl) ?_))
      refine AL.rp rfl rfl (rp_pick rfl rfl rfl) ?_
      refine AL.nil ?_
      try simp only [thenS, S.put]
      refine AW.condF rfl ?_
      refine AW.skip ?_
      try simp only [thenS]
      refine AW.seq ?_
      refine AW.region ?_
      (first | (refine AL.rp rfl rfl (rp_field_ref Try.underlying95 rfl rfl rfl inf3 (by decide) rfl) ?_) | (refine AL.rp rfl rfl (rp_field_ad Try.underlying95 rfl rfl rfl inf3 (by decide) rfl) ?_))
      (first | (refine AL.rd rfl rfl (rd_load_ref Try.underlying3 rfl rfl rfl rfl rfl rfl) ?_) | (refine AL.rd rfl rfl (rd_load_ad Try.underlying3 rfl rfl rfl rfl) ?_) | (refine AL.rd rfl rfl (rd_load_map Try.underlying3 rfl rfl rfl rfl rfl rfl (by assumption)) ?_) | (refine AL.rd rfl rfl (rd_load_flat Try.underlying3 rfl rfl rfl rfl rfl rfl (fun _ => rfl) (by assumption) rfl) ?_))
      (first | (refine AL.rp rfl rfl (rp_geqT rfl rfl rfl (by first | assumption | omega | (dsimp only; omega))) ?_) | (refine AL.rp rfl rfl (rp_geqF rfl rfl rfl (by first | assumption | omega | (dsimp only; omega))) ?_) | (refine AL.rp rfl rfl (rp_geq rfl rfl rfl) ?_))
      refine AL.rp rfl rfl (rp_move rfl rfl) ?_
      (first | (refine AL.noV rfl rfl rfl rfl ?_) | (refine AL.noU rfl ⟨_, rfl, rfl⟩ rfl ?_) | (refine AL.rpy rfl rfl rfl (rp_field_ref Try.underlying95 rfl rfl rfl inf3 (by decide) rfl) ?_) | (refine AL.rpy rfl rfl rfl (rp_field_ad Try.underlying95 rfl rfl rfl inf3 (by decide) rfl) ?_))
      (first | (refine AL.noV rfl rfl rfl rfl ?_) | (refine AL.noU rfl ⟨_, rfl, rfl⟩ rfl ?_) | (refine AL.rdy rfl rfl rfl (rd_load_ref Try.underlying3 rfl rfl rfl rfl rfl rfl) ?_) | (refine AL.rdy rfl rfl rfl (rd_load_ad Try.underlying3 rfl rfl rfl rfl) ?_) | (refine AL.rdy rfl rfl rfl (rd_load_map Try.underlying3 rfl rfl rfl rfl rfl rfl (by assumption)) ?_) | (refine AL.rdy rfl rfl rfl (rd_load_flat Try.underlying3 rfl rfl rfl rfl rfl rfl (fun _ => rfl) (by assumption) rfl) ?_))
      (first | (refine AL.noV rfl rfl rfl rfl ?_) | (refine AL.noU rfl ⟨_, rfl, rfl⟩ rfl ?_) | (refine AL.rpy rfl rfl rfl (rp_leqT rfl rfl rfl (by first | assumption | omega | (dsimp only; omega))) ?_) | (refine AL.rpy rfl rfl rfl (rp_leqF rfl rfl rfl (by first | assumption | omega | (dsimp only; omega))) ?_) | (refine AL.rpy rfl rfl rfl (rp_leq rfl rfl rfl) ?_))
      refine AL.rp rfl rfl (rp_pick rfl rfl rfl) ?_
      refine AL.rp rfl rfl (rp_move rfl rfl) ?_
      (first | (refine AL.noV rfl rfl rfl rfl ?_) | (refine AL.noU rfl ⟨_, rfl, rfl⟩ rfl ?_) | (refine AL.rpy rfl rfl rfl (rp_field_ref Try.underlying95 rfl rfl rfl inf3 (by decide) rfl) ?_) | (refine AL.rpy rfl rfl rfl (rp_field_ad Try.underlying95 rfl rfl rfl inf3 (by decide) rfl) ?_))
      (first | (refine AL.noV rfl rfl rfl rfl ?_) | (refine AL.noU rfl ⟨_, rfl, rfl⟩ rfl ?_) | (refine AL.rdy rfl rfl rfl (rd_load_ref Try.underlying3 rfl rfl rfl rfl rfl rfl) ?_) | (refine AL.rdy rfl rfl rfl (rd_load_ad Try.underlying3 rfl rfl rfl rfl) ?_) | (refine AL.rdy rfl rfl rfl (rd_load_map Try.underlying3 rfl rfl rfl rfl rfl rfl (by assumption)) ?_) | (refine AL.rdy rfl rfl rfl (rd_load_flat Try.underlying3 rfl rfl rfl rfl rfl rfl (fun _ => rfl) (by assumption) rfl) ?_))
      (first | (refine AL.noV rfl rfl rfl rfl ?_) | (refine AL.noU rfl ⟨_, rfl, rfl⟩ rfl ?_) | (refine AL.rpy rfl rfl rfl (rp_geqT rfl rfl rfl (by first | assumption | omega | (dsimp only; omega))) ?_) | (refine AL.rpy rfl rfl rfl (rp_geqF rfl rfl rfl (by first | assumption | omega | (dsimp only; omega))) ?_) | (refine AL.rpy rfl rfl rfl (rp_geq rfl rfl rfl) ?_))
      refine AL.rp rfl rfl (rp_pick rfl rfl rfl) ?_
      refine AL.rp rfl rfl (rp_move rfl rfl) ?_
      (first | (refine AL.noV rfl rfl rfl rfl ?_) | (refine AL.noU rfl ⟨_, rfl, rfl⟩ rfl ?_) | (refine AL.rpy rfl rfl rfl (rp_field_ref Try.underlying95 rfl rfl rfl inf3 (by decide) rfl) ?_) | (refine AL.rpy rfl rfl rfl (rp_field_ad Try.underlying95 rfl rfl rfl inf3 (by decide) rfl) ?_))
      (first | (refine AL.noV rfl rfl rfl rfl ?_) | (refine AL.noU rfl ⟨_, rfl, rfl⟩ rfl ?_) | (refine AL.rdy rfl rfl rfl (rd_load_ref Try.underlying3 rfl rfl rfl rfl rfl rfl) ?_) | (refine AL.rdy rfl rfl rfl (rd_load_ad Try.underlying3 rfl rfl rfl rfl) ?_) | (refine AL.rdy rfl rfl rfl (rd_load_map Try.underlying3 rfl rfl rfl rfl rfl rfl (by assumption)) ?_) | (refine AL.rdy rfl rfl rfl (rd_load_flat Try.underlying3 rfl rfl rfl rfl rfl rfl (fun _ => rfl) (by assumption) rfl) ?_))
      (first | (refine AL.noV rfl rfl rfl rfl ?_) | (refine AL.noU rfl ⟨_, rfl, rfl⟩ rfl ?_) | (refine AL.rpy rfl rfl rfl (rp_leqT rfl rfl rfl (by first | assumption | omega | (dsimp only; omega))) ?_) | (refine AL.rpy rfl rfl rfl (rp_leqF rfl rfl rfl (by first | assumption | omega | (dsimp only; omega))) ?_) | (refine AL.rpy rfl rfl rfl (rp_leq rfl rfl rfl) ?_))
      refine AL.rp rfl rfl (rp_pick rfl rfl rfl) ?_
      refine AL.rp rfl rfl (rp_assign rfl rfl) ?_
      refine AL.nil ?_
      try simp only [thenS, S.put]
      refine AW.ret ?_
      exact ⟨[_], ⟨rfl, trivial⟩, by simp [tupOf, h1, h2, h3, h4, h5], by simp [tupOf, V.pure, V.has]⟩
    ·skip
     refine AW.seq ?_
     refine AW.region ?_
     refine AL.sm rfl (sm_box 1 rfl rfl rfl (by first | rfl | simp [S.clean, S.put, S.newObj, S.forget, V.has, V.hasL, junkIf, setL, V.cs, hasL_i, hasL_b, hasL_s, hasL_n, hasL_rep, hasL_flat, hasL_append, -List.map_set]) rfl) ?_
     refine AL.rp rfl rfl (rp_assign rfl rfl) ?_
     refine AL.nil ?_
     try simp only [thenS, S.put, S.newObj, setL, V.cs, List.length_cons, List.length_nil, List.take_succ_cons, List.take_zero, List.drop_succ_cons, List.drop_zero, List.drop_nil, List.nil_append, List.cons_append, List.append_nil, Nat.zero_add, Nat.reduceAdd, List.map_cons, List.map_nil, List.set_cons_zero, List.set_cons_succ, enum]
     refine AW.seq ?_
     refine AW.seq ?_
     refine AW.region ?_
     (first | (refine AL.rp rfl rfl (rp_field_ref Try.underlying95 rfl rfl rfl inf3 (by decide) rfl) ?_) | (refine AL.rp rfl rfl (rp_field_ad Try.underlying95 rfl rfl rfl inf3 (by decide) rfl) ?_))
     (first | (refine AL.rd rfl rfl (rd_load_ref Try.underlying3 rfl rfl rfl rfl rfl rfl) ?_) | (refine AL.rd rfl rfl (rd_load_ad Try.underlying3 rfl rfl rfl rfl) ?_) | (refine AL.rd rfl rfl (rd_load_map Try.underlying3 rfl rfl rfl rfl rfl rfl (by assumption)) ?_) | (refine AL.rd rfl rfl (rd_load_flat Try.underlying3 rfl rfl rfl rfl rfl rfl (fun _ => rfl) (by assumption) rfl) ?_))
     (first | (refine AL.rp rfl rfl (rp_eqlT rfl rfl rfl (by first | assumption | omega | (dsimp only; omega))) ?_) | (refine AL.rp rfl rfl (rp_eqlF rfl rfl rfl (by first | assumption | omega | (dsimp only; omega))) ?_) | (refine AL.rp rfl rfl (rp_eql rfl rfl rfl) ?_))
     refine AL.rp rfl rfl (rp_move rfl rfl) ?_
     (first | (refine AL.noV rfl rfl rfl rfl ?_) | (refine AL.noU rfl ⟨_, rfl, rfl⟩ rfl ?_) | (refine AL.rpy rfl rfl rfl (rp_field_ref Try.underlying95 rfl rfl rfl inf3 (by decide) rfl) ?_) | (refine AL.rpy rfl rfl rfl (rp_field_ad Try.underlying95 rfl rfl rfl inf3 (by decide) rfl) ?_))
     (first | (refine AL.noV rfl rfl rfl rfl ?_) | (refine AL.noU rfl ⟨_, rfl, rfl⟩ rfl ?_) | (refine AL.rdy rfl rfl rfl (rd_load_ref Try.underlying3 rfl rfl rfl rfl rfl rfl) ?_) | (refine AL.rdy rfl rfl rfl (rd_load_ad Try.underlying3 rfl rfl rfl rfl) ?_) | (refine AL.rdy rfl rfl rfl (rd_load_map Try.underlying3 rfl rfl rfl rfl rfl rfl (by assumption)) ?_) | (refine AL.rdy rfl rfl rfl (rd_load_flat Try.underlying3 rfl rfl rfl rfl rfl rfl (fun _ => rfl) (by assumption) rfl) ?_))
     (first | (refine AL.noV rfl rfl rfl rfl ?_) | (refine AL.noU rfl ⟨_, rfl, rfl⟩ rfl ?_) | (refine AL.rpy rfl rfl rfl (rp_eqlT rfl rfl rfl (by first | assumption | omega | (dsimp only; omega))) ?_) | (refine AL.rpy rfl rfl rfl (rp_eqlF rfl rfl rfl (by first | assumption | omega | (dsimp only; omega))) ?_) | (refine AL.rpy rfl rfl rfl (rp_eql rfl rfl rfl) ?_))
     refine AL.rp rfl rfl (rp_pick rfl rfl rfl) ?_
     refine AL.nil ?_
     try simp only [thenS, S.put]
     refine AW.condF rfl ?_
     refine AW.skip ?_
     try simp only [thenS]
     refine AW.seq ?_
     refine AW.region ?_
     (first | (refine AL.rp rfl rfl (rp_field_ref Try.underlying95 rfl rfl rfl inf3 (by decide) rfl) ?_) | (refine AL.rp rfl rfl (rp_field_ad Try.underlying95 rfl rfl rfl inf3 (by decide) rfl) ?_))
     (first | (refine AL.rd rfl rfl (rd_load_ref Try.underlying3 rfl rfl rfl rfl rfl rfl) ?_) | (refine AL.rd rfl rfl (rd_load_ad Try.underlying3 rfl rfl rfl rfl) ?_) | (refine AL.rd rfl rfl (rd_load_map Try.underlying3 rfl rfl rfl rfl rfl rfl (by assumption)) ?_) | (refine AL.rd rfl rfl (rd_load_flat Try.underlying3 rfl rfl rfl rfl rfl rfl (fun _ => rfl) (by assumption) rfl) ?_))
     (first | (refine AL.rp rfl rfl (rp_geqT rfl rfl rfl (by first | assumption | omega | (dsimp only; omega))) ?_) | (refine AL.rp rfl rfl (rp_geqF rfl rfl rfl (by first | assumption | omega | (dsimp only; omega))) ?_) | (refine AL.rp rfl rfl (rp_geq rfl rfl rfl) ?_))
     refine AL.rp rfl rfl (rp_move rfl rfl) ?_
     (first | (refine AL.noV rfl rfl rfl rfl ?_) | (refine AL.noU rfl ⟨_, rfl, rfl⟩ rfl ?_) | (refine AL.rpy rfl rfl rfl (rp_field_ref Try.underlying95 rfl rfl rfl inf3 (by decide) rfl) ?_) | (refine AL.rpy rfl rfl rfl (rp_field_ad Try.underlying95 rfl rfl rfl inf3 (by decide) rfl) ?_))
     (first | (refine AL.noV rfl rfl rfl rfl ?_) | (refine AL.noU rfl ⟨_, rfl, rfl⟩ rfl ?_) | (refine AL.rdy rfl rfl rfl (rd_load_ref Try.underlying3 rfl rfl rfl rfl rfl rfl) ?_) | (refine AL.rdy rfl rfl rfl (rd_load_ad Try.underlying3 rfl rfl rfl rfl) ?_) | (refine AL.rdy rfl rfl rfl (rd_load_map Try.underlying3 rfl rfl rfl rfl rfl rfl (by assumption)) ?_) | (refine AL.rdy rfl rfl rfl (rd_load_flat Try.underlying3 rfl rfl rfl rfl rfl rfl (fun _ => rfl) (by assumption) rfl) ?_))
     (first | (refine AL.noV rfl rfl rfl rfl ?_) | (refine AL.noU rfl ⟨_, rfl, rfl⟩ rfl ?_) | (refine AL.rpy rfl rfl rfl (rp_leqT rfl rfl rfl (by first | assumption | omega | (dsimp only; omega))) ?_) | (refine AL.rpy rfl rfl rfl (rp_leqF rfl rfl rfl (by first | assumption | omega | (dsimp only; omega))) ?_) | (refine AL.rpy rfl rfl rfl (rp_leq rfl rfl rfl) ?_))
     refine AL.rp rfl rfl (rp_pick rfl rfl rfl) ?_
     refine AL.rp rfl rfl (rp_move rfl rfl) ?_
     (first | (refine AL.noV rfl rfl rfl rfl ?_) | (refine AL.noU rfl ⟨_, rfl, rfl⟩ rfl ?_) | (refine AL.rpy rfl rfl rfl (rp_field_ref Try.underlying95 rfl rfl rfl inf3 (by decide) rfl) ?_) | (refine AL.rpy rfl rfl rfl (rp_field_ad Try.underlying95 rfl rfl rfl inf3 (by decide) rfl) ?_))
     (first | (refine AL.noV rfl rfl rfl rfl ?_) | (refine AL.noU rfl ⟨_, rfl, rfl⟩ rfl ?_) | (refine AL.rdy rfl rfl rfl (rd_load_ref Try.underlying3 rfl rfl rfl rfl rfl rfl) ?_) | (refine AL.rdy rfl rfl rfl (rd_load_ad Try.underlying3 rfl rfl rfl rfl) ?_) | (refine AL.rdy rfl rfl rfl (rd_load_map Try.underlying3 rfl rfl rfl rfl rfl rfl (by assumption)) ?_) | (refine AL.rdy rfl rfl rfl (rd_load_flat Try.underlying3 rfl rfl rfl rfl rfl rfl (fun _ => rfl) (by assumption) rfl) ?_))
     (first | (refine AL.noV rfl rfl rfl rfl ?_) | (refine AL.noU rfl ⟨_, rfl, rfl⟩ rfl ?_) | (refine AL.rpy rfl rfl rfl (rp_geqT rfl rfl rfl (by first | assumption | omega | (dsimp only; omega))) ?_) | (refine AL.rpy rfl rfl rfl (rp_geqF rfl rfl rfl (by first | assumption | omega | (dsimp only; omega))) ?_) | (refine AL.rpy rfl rfl rfl (rp_geq rfl rfl rfl) ?_))
     refine AL.rp rfl rfl (rp_pick rfl rfl rfl) ?_
     refine AL.rp rfl rfl (rp_move rfl rfl) ?_
     (first | (refine AL.noV rfl rfl rfl rfl ?_) | (refine AL.noU rfl ⟨_, rfl, rfl⟩ rfl ?_) | (refine AL.rpy rfl rfl rfl (rp_field_ref Try.underlying95 rfl rfl rfl inf3 (by decide) rfl) ?_) | (refine AL.rpy rfl rfl rfl (rp_field_ad Try.underlying95 rfl rfl rfl inf3 (by decide) rfl) ?_))
     (first | (refine AL.noV rfl rfl rfl rfl ?_) | (refine AL.noU rfl ⟨_, rfl, rfl⟩ rfl ?_) | (refine AL.rdy rfl rfl rfl (rd_load_ref Try.underlying3 rfl rfl rfl rfl rfl rfl) ?_) | (refine AL.rdy rfl rfl rfl (rd_load_ad Try.underlying3 rfl rfl rfl rfl) ?_) | (refine AL.rdy rfl rfl rfl (rd_load_map Try.underlying3 rfl rfl rfl rfl rfl rfl (by assumption)) ?_) | (refine AL.rdy rfl rfl rfl (rd_load_flat Try.underlying3 rfl rfl rfl rfl rfl rfl (fun _ => rfl) (by assumption) rfl) ?_))
     (first | (refine AL.noV rfl rfl rfl rfl ?_) | (refine AL.noU rfl ⟨_, rfl, rfl⟩ rfl ?_) | (refine AL.rpy rfl rfl rfl (rp_leqT rfl rfl rfl (by first | assumption | omega | (dsimp only; omega))) ?_) | (refine AL.rpy rfl rfl rfl (rp_leqF rfl rfl rfl (by first | assumption | omega | (dsimp only; omega))) ?_) | (refine AL.rpy rfl rfl rfl (rp_leq rfl rfl rfl) ?_))
     refine AL.rp rfl rfl (rp_pick rfl rfl rfl) ?_
     refine AL.rp rfl rfl (rp_assign rfl rfl) ?_
     refine AL.nil ?_
     try simp only [thenS, S.put]
     refine AW.ret ?_
     exact ⟨[_], ⟨rfl, trivial⟩, by simp [tupOf, h1, h2, h3, h4], by simp [tupOf, V.pure, V.has]⟩
   ·skip
    refine AW.seq ?_
    refine AW.region ?_
    refine AL.sm rfl (sm_box 1 rfl rfl rfl (by first | rfl | simp [S.clean, S.put, S.newObj, S.forget, V.has, V.hasL, junkIf, setL, V.cs, hasL_i, hasL_b, hasL_s, hasL_n, hasL_rep, hasL_flat, hasL_append, -List.map_set]) rfl) ?_
    refine AL.rp rfl rfl (rp_assign rfl rfl) ?_
    refine AL.nil ?_
    try simp only [thenS, S.put, S.newObj, setL, V.cs, List.length_cons, List.length_nil, List.take_succ_cons, List.take_zero, List.drop_succ_cons, List.drop_zero, List.drop_nil, List.nil_append, List.cons_append, List.append_nil, Nat.zero_add, Nat.reduceAdd, List.map_cons, List.map_nil, List.set_cons_zero, List.set_cons_succ, enum]
    refine AW.seq ?_
    refine AW.seq ?_
    refine AW.region ?_
    (first | (refine AL.rp rfl rfl (rp_field_ref Try.underlying95 rfl rfl rfl inf3 (by decide) rfl) ?_) | (refine AL.rp rfl rfl (rp_field_ad Try.underlying95 rfl rfl rfl inf3 (by decide) rfl) ?_))
    (first | (refine AL.rd rfl rfl (rd_load_ref Try.underlying3 rfl rfl rfl rfl rfl rfl) ?_) | (refine AL.rd rfl rfl (rd_load_ad Try.underlying3 rfl rfl rfl rfl) ?_) | (refine AL.rd rfl rfl (rd_load_map Try.underlying3 rfl rfl rfl rfl rfl rfl (by assumption)) ?_) | (refine AL.rd rfl rfl (rd_load_flat Try.underlying3 rfl rfl rfl rfl rfl rfl (fun _ => rfl) (by assumption) rfl) ?_))
    (first | (refine AL.rp rfl rfl (rp_eqlT rfl rfl rfl (by first | assumption | omega | (dsimp only; omega))) ?_) | (refine AL.rp rfl rfl (rp_eqlF rfl rfl rfl (by first | assumption | omega | (dsimp only; omega))) ?_) | (refine AL.rp rfl rfl (rp_eql rfl rfl rfl) ?_))
    refine AL.rp rfl rfl (rp_move rfl rfl) ?_
    (first | (refine AL.noV rfl rfl rfl rfl ?_) | (refine AL.noU rfl ⟨_, rfl, rfl⟩ rfl ?_) | (refine AL.rpy rfl rfl rfl (rp_field_ref Try.underlying95 rfl rfl rfl inf3 (by decide) rfl) ?_) | (refine AL.rpy rfl rfl rfl (rp_field_ad Try.underlying95 rfl rfl rfl inf3 (by decide) rfl) ?_))
    (first | (refine AL.noV rfl rfl rfl rfl ?_) | (refine AL.noU rfl ⟨_, rfl, rfl⟩ rfl ?_) | (refine AL.rdy rfl rfl rfl (rd_load_ref Try.underlying3 rfl rfl rfl rfl rfl rfl) ?_) | (refine AL.rdy rfl rfl rfl (rd_load_ad Try.underlying3 rfl rfl rfl rfl) ?_) | (refine AL.rdy rfl rfl rfl (rd_load_map Try.underlying3 rfl rfl rfl rfl rfl rfl (by assumption)) ?_) | (refine AL.rdy rfl rfl rfl (rd_load_flat Try.underlying3 rfl rfl rfl rfl rfl rfl (fun _ => rfl) (by assumption) rfl) ?_))
    (first | (refine AL.noV rfl rfl rfl rfl ?_) | (refine AL.noU rfl ⟨_, rfl, rfl⟩ rfl ?_) | (refine AL.rpy rfl rfl rfl (rp_eqlT rfl rfl rfl (by first | assumption | omega | (dsimp only; omega))) ?_) | (refine AL.rpy rfl rfl rfl (rp_eqlF rfl rfl rfl (by first | assumption | omega | (dsimp only; omega))) ?_) | (refine AL.rpy rfl rfl rfl (rp_eql rfl rfl rfl) ?_))
    refine AL.rp rfl rfl (rp_pick rfl rfl rfl) ?_
    refine AL.nil ?_
    try simp only [thenS, S.put]
    refine AW.condF rfl ?_
    refine AW.skip ?_
    try simp only [thenS]
    refine AW.seq ?_
    refine AW.region ?_
    (first | (refine AL.rp rfl rfl (rp_field_ref Try.underlying95 rfl rfl rfl inf3 (by decide) rfl) ?_) | (refine AL.rp rfl rfl (rp_field_ad Try.underlying95 rfl rfl rfl inf3 (by decide) rfl) ?_))
    (first | (refine AL.rd rfl rfl (rd_load_ref Try.underlying3 rfl rfl rfl rfl rfl rfl) ?_) | (refine AL.rd rfl rfl (rd_load_ad Try.underlying3 rfl rfl rfl rfl) ?_) | (refine AL.rd rfl rfl (rd_load_map Try.underlying3 rfl rfl rfl rfl rfl rfl (by assumption)) ?_) | (refine AL.rd rfl rfl (rd_load_flat Try.underlying3 rfl rfl rfl rfl rfl rfl (fun _ => rfl) (by assumption) rfl) ?_))
    (first | (refine AL.rp rfl rfl (rp_geqT rfl rfl rfl (by first | assumption | omega | (dsimp only; omega))) ?_) | (refine AL.rp rfl rfl (rp_geqF rfl rfl rfl (by first | assumption | omega | (dsimp only; omega))) ?_) | (refine AL.rp rfl rfl (rp_geq rfl rfl rfl) ?_))
    refine AL.rp rfl rfl (rp_move rfl rfl) ?_
    (first | (refine AL.noV rfl rfl rfl rfl ?_) | (refine AL.noU rfl ⟨_, rfl, rfl⟩ rfl ?_) | (refine AL.rpy rfl rfl rfl (rp_field_ref Try.underlying95 rfl rfl rfl inf3 (by decide) rfl) ?_) | (refine AL.rpy rfl rfl rfl (rp_field_ad Try.underlying95 rfl rfl rfl inf3 (by decide) rfl) ?_))
    (first | (refine AL.noV rfl rfl rfl rfl ?_) | (refine AL.noU rfl ⟨_, rfl, rfl⟩ rfl ?_) | (refine AL.rdy rfl rfl rfl (rd_load_ref Try.underlying3 rfl rfl rfl rfl rfl rfl) ?_) | (refine AL.rdy rfl rfl rfl (rd_load_ad Try.underlying3 rfl rfl rfl rfl) ?_) | (refine AL.rdy rfl rfl rfl (rd_load_map Try.underlying3 rfl rfl rfl rfl rfl rfl (by assumption)) ?_) | (refine AL.rdy rfl rfl rfl (rd_load_flat Try.underlying3 rfl rfl rfl rfl rfl rfl (fun _ => rfl) (by assumption) rfl) ?_))
    (first | (refine AL.noV rfl rfl rfl rfl ?_) | (refine AL.noU rfl ⟨_, rfl, rfl⟩ rfl ?_) | (refine AL.rpy rfl rfl rfl (rp_leqT rfl rfl rfl (by first | assumption | omega | (dsimp only; omega))) ?_) | (refine AL.rpy rfl rfl rfl (rp_leqF rfl rfl rfl (by first | assumption | omega | (dsimp only; omega))) ?_) | (refine AL.rpy rfl rfl rfl (rp_leq rfl rfl rfl) ?_))
    refine AL.rp rfl rfl (rp_pick rfl rfl rfl) ?_
    refine AL.rp rfl rfl (rp_move rfl rfl) ?_
    (first | (refine AL.noV rfl rfl rfl rfl ?_) | (refine AL.noU rfl ⟨_, rfl, rfl⟩ rfl ?_) | (refine AL.rpy rfl rfl rfl (rp_field_ref Try.underlying95 rfl rfl rfl inf3 (by decide) rfl) ?_) | (refine AL.rpy rfl rfl rfl (rp_field_ad Try.underlying95 rfl rfl rfl inf3 (by decide) rfl) ?_))
    (first | (refine AL.noV rfl rfl rfl rfl ?_) | (refine AL.noU rfl ⟨_, rfl, rfl⟩ rfl ?_) | (refine AL.rdy rfl rfl rfl (rd_load_ref Try.underlying3 rfl rfl rfl rfl rfl rfl) ?_) | (refine AL.rdy rfl rfl rfl (rd_load_ad Try.underlying3 rfl rfl rfl rfl) ?_) | (refine AL.rdy rfl rfl rfl (rd_load_map Try.underlying3 rfl rfl rfl rfl rfl rfl (by assumption)) ?_) | (refine AL.rdy rfl rfl rfl (rd_load_flat Try.underlying3 rfl rfl rfl rfl rfl rfl (fun _ => rfl) (by assumption) rfl) ?_))
    (first | (refine AL.noV rfl rfl rfl rfl ?_) | (refine AL.noU rfl ⟨_, rfl, rfl⟩ rfl ?_) | (refine AL.rpy rfl rfl rfl (rp_geqT rfl rfl rfl (by first | assumption | omega | (dsimp only; omega))) ?_) | (refine AL.rpy rfl rfl rfl (rp_geqF rfl rfl rfl (by first | assumption | omega | (dsimp only; omega))) ?_) | (refine AL.rpy rfl rfl rfl (rp_geq rfl rfl rfl) ?_))
    refine AL.rp rfl rfl (rp_pick rfl rfl rfl) ?_
    refine AL.rp rfl rfl (rp_move rfl rfl) ?_
    (first | (refine AL.noV rfl rfl rfl rfl ?_) | (refine AL.noU rfl ⟨_, rfl, rfl⟩ rfl ?_) | (refine AL.rpy rfl rfl rfl (rp_field_ref Try.underlying95 rfl rfl rfl inf3 (by decide) rfl) ?_) | (refine AL.rpy rfl rfl rfl (rp_field_ad Try.underlying95 rfl rfl rfl inf3 (by decide) rfl) ?_))
    (first | (refine AL.noV rfl rfl rfl rfl ?_) | (refine AL.noU rfl ⟨_, rfl, rfl⟩ rfl ?_) | (refine AL.rdy rfl rfl rfl (rd_load_ref Try.underlying3 rfl rfl rfl rfl rfl rfl) ?_) | (refine AL.rdy rfl rfl rfl (rd_load_ad Try.underlying3 rfl rfl rfl rfl) ?_) | (refine AL.rdy rfl rfl rfl (rd_load_map Try.underlying3 rfl rfl rfl rfl rfl rfl (by assumption)) ?_) | (refine AL.rdy rfl rfl rfl (rd_load_flat Try.underlying3 rfl rfl rfl rfl rfl rfl (fun _ => rfl) (by assumption) rfl) ?_))
    (first | (refine AL.noV rfl rfl rfl rfl ?_) | (refine AL.noU rfl ⟨_, rfl, rfl⟩ rfl ?_) | (refine AL.rpy rfl rfl rfl (rp_leqT rfl rfl rfl (by first | assumption | omega | (dsimp only; omega))) ?_) | (refine AL.rpy rfl rfl rfl (rp_leqF rfl rfl rfl (by first | assumption | omega | (dsimp only; omega))) ?_) | (refine AL.rpy rfl rfl rfl (rp_leq rfl rfl rfl) ?_))
    refine AL.rp rfl rfl (rp_pick rfl rfl rfl) ?_
    refine AL.rp rfl rfl (rp_assign rfl rfl) ?_
    refine AL.nil ?_
    try simp only [thenS, S.put]
    refine AW.ret ?_
    exact ⟨[_], ⟨rfl, trivial⟩, by simp [tupOf, h1, h2, h3], by simp [tupOf, V.pure, V.has]⟩
theorem am_times_none (a b x y : Int) (h : (a = 1000000001 ∧ b = 1000000001) ∨ ¬ (a = 1000000001 ∧ b = 1000000001) ∧ (x = 1000000001 ∧ y = 1000000001)) : Fn Try.prog 107 [.agg [], .agg [.i a, .i b], .agg [.i x, .i y]] (fun v => v = .tup [.agg [.i 1000000001, .i 1000000001], .b true]) := by
 refine Fn.intro (n := 40) ⟨Try.func107, rfl, rfl, rfl, rfl⟩ (by simp [V.pure, V.has, V.hasL]) (by simp) fun w0 out => ?_
 rcases h with h | ⟨h, h'⟩
 ·skip
  refine AW.seq ?_
  refine AW.region ?_
  refine AL.sm rfl (sm_box 3 rfl rfl rfl (by first | rfl | simp [S.clean, S.put, S.newObj, S.forget, V.has, V.hasL, junkIf, setL, V.cs, hasL_i, hasL_b, hasL_s, hasL_n, hasL_rep, hasL_flat, hasL_append, -List.map_set]) rfl) ?_
  refine AL.sm rfl (sm_box 4 rfl rfl rfl (by first | rfl | simp [S.clean, S.put, S.newObj, S.forget, V.has, V.hasL, junkIf, setL, V.cs, hasL_i, hasL_b, hasL_s, hasL_n, hasL_rep, hasL_flat, hasL_append, -List.map_set]) rfl) ?_
  refine AL.sm rfl (sm_box 5 rfl rfl rfl (by first | rfl | simp [S.clean, S.put, S.newObj, S.forget, V.has, V.hasL, junkIf, setL, V.cs, hasL_i, hasL_b, hasL_s, hasL_n, hasL_rep, hasL_flat, hasL_append, -List.map_set]) rfl) ?_
  refine AL.sm rfl (sm_alloc (l := [.d (.p (.int .i64 0)), .d (.p (.int .i64 0))]) 6 inf95 rfl (by first | rfl | simp [S.clean, S.put, S.newObj, S.forget, V.has, V.hasL, junkIf, setL, V.cs, hasL_i, hasL_b, hasL_s, hasL_n, hasL_rep, hasL_flat, hasL_append, -List.map_set]) rfl rfl) ?_
  refine AL.rp rfl rfl (rp_assign rfl rfl) ?_
  refine AL.nil ?_
  try simp only [thenS, S.put, S.newObj, setL, V.cs, List.length_cons, List.length_nil, List.take_succ_cons, List.take_zero, List.drop_succ_cons, List.drop_zero, List.drop_nil, List.nil_append, List.cons_append, List.append_nil, Nat.zero_add, Nat.reduceAdd, List.map_cons, List.map_nil, List.set_cons_zero, List.set_cons_succ, enum]
  refine AW.seq ?_
  refine AW.region ?_
  refine AL.rp rfl rfl (rp_build (vs := [(0, _), (1, _)]) (zs := [.d (.p (.int .i64 0)), .d (.p (.int .i64 0))]) pl95 inf95 rfl rfl rfl rfl) ?_
  refine AL.sm rfl (sm_alloc (l := [.d (.p (.int .i64 0)), .d (.p (.int .i64 0))]) 8 inf95 rfl (by first | rfl | simp [S.clean, S.put, S.newObj, S.forget, V.has, V.hasL, junkIf, setL, V.cs, hasL_i, hasL_b, hasL_s, hasL_n, hasL_rep, hasL_flat, hasL_append, -List.map_set]) rfl rfl) ?_
  refine AL.st rfl (st_store_any inf95 rfl rfl rfl rfl rfl rfl rfl rfl (by first | decide | (simp; done) | (simp; omega)) rfl) ?_
  refine AL.nil ?_
  try simp only [thenS, S.put, S.newObj, setL, V.cs, List.length_cons, List.length_nil, List.take_succ_cons, List.take_zero, List.drop_succ_cons, List.drop_zero, List.drop_nil, List.nil_append, List.cons_append, List.append_nil, Nat.zero_add, Nat.reduceAdd, List.map_cons, List.map_nil, List.set_cons_zero, List.set_cons_succ]
  refine AW.seq ?_
  refine AW.seq ?_
  refine AW.region ?_
  (first | (refine AL.rd rfl rfl (rd_loads_ref Try.underlying95 rfl inf95 rfl rfl rfl rfl rfl rfl) ?_) | (refine AL.rd rfl rfl (rd_loads_ad Try.underlying95 rfl inf95 rfl rfl rfl rfl) ?_))
  (first | (refine AL.rd rfl rfl (rd_loads_ref Try.underlying95 rfl inf95 rfl rfl rfl rfl rfl rfl) ?_) | (refine AL.rd rfl rfl (rd_loads_ad Try.underlying95 rfl inf95 rfl rfl rfl rfl) ?_))
  (first | (refine AL.rp rfl rfl (cmp_eql_95T rfl rfl rfl rfl (by first | assumption | rfl)) ?_) | (refine AL.rp rfl rfl (cmp_eql_95F rfl rfl rfl rfl (by first | assumption | rfl)) ?_))
  refine AL.rp rfl rfl (rp_move rfl rfl) ?_
  (first | (refine AL.noV rfl rfl rfl rfl ?_) | (refine AL.noU rfl ⟨_, rfl, rfl⟩ rfl ?_) | (refine AL.rdy rfl rfl rfl (rd_loads_ref Try.underlying95 rfl inf95 rfl rfl rfl rfl rfl rfl) ?_) | (refine AL.rdy rfl rfl rfl (rd_loads_ad Try.underlying95 rfl inf95 rfl rfl rfl rfl) ?_))
  (first | (refine AL.noV rfl rfl rfl rfl ?_) | (refine AL.noU rfl ⟨_, rfl, rfl⟩ rfl ?_) | (refine AL.rdy rfl rfl rfl (rd_loads_ref Try.underlying95 rfl inf95 rfl rfl rfl rfl rfl rfl) ?_) | (refine AL.rdy rfl rfl rfl (rd_loads_ad Try.underlying95 rfl inf95 rfl rfl rfl rfl) ?_))
  (first | (refine AL.noV rfl rfl rfl rfl ?_) | (refine AL.noU rfl ⟨_, rfl, rfl⟩ rfl ?_) | (refine AL.rpy rfl rfl rfl (cmp_eql_95T rfl rfl rfl rfl (by first | assumption | rfl)) ?_) | (refine AL.rpy rfl rfl rfl (cmp_eql_95F rfl rfl rfl rfl (by first | assumption | rfl)) ?_))
  refine AL.rp rfl rfl (rp_pick rfl rfl rfl) ?_
  refine AL.nil ?_
  try simp only [thenS, S.put]
  refine AW.condT rfl ?_
  refine AW.seq ?_
  refine AW.region ?_
  (first | (refine AL.rd rfl rfl (rd_loads_ref Try.underlying95 rfl inf95 rfl rfl rfl rfl rfl rfl) ?_) | (refine AL.rd rfl rfl (rd_loads_ad Try.underlying95 rfl inf95 rfl rfl rfl rfl) ?_))
  refine AL.st rfl (st_store_any inf95 rfl rfl rfl rfl rfl rfl rfl rfl (by first | decide | (simp; done) | (simp; omega)) rfl) ?_
  refine AL.rp rfl rfl (rp_assign rfl rfl) ?_
  refine AL.nil ?_
  try simp only [thenS, S.put, S.newObj, setL, V.cs, List.length_cons, List.length_nil, List.take_succ_cons, List.take_zero, List.drop_succ_cons, List.drop_zero, List.drop_nil, List.nil_append, List.cons_append, List.append_nil, Nat.zero_add, Nat.reduceAdd, List.map_cons, List.map_nil, List.set_cons_zero, List.set_cons_succ]
  refine AW.ret ?_
  exact ⟨[_, _], ⟨⟨6, 0, _, _, rfl, rfl, rfl, Try.underlying95, .inr ⟨rfl, _, _, _, _, inf95, rfl, rfl, rfl⟩⟩, rfl, trivial⟩, rfl, by simp [tupOf, V.pure, V.has, V.hasL]⟩
 ·skip
  refine AW.seq ?_
  refine AW.region ?_
  refine AL.sm rfl (sm_box 3 rfl rfl rfl (by first | rfl | simp [S.clean, S.put, S.newObj, S.forget, V.has, V.hasL, junkIf, setL, V.cs, hasL_i, hasL_b, hasL_s, hasL_n, hasL_rep, hasL_flat, hasL_append, -List.map_set]) rfl) ?_
  refine AL.sm rfl (sm_box 4 rfl rfl rfl (by first | rfl | simp [S.clean, S.put, S.newObj, S.forget, V.has, V.hasL, junkIf, setL, V.cs, hasL_i, hasL_b, hasL_s, hasL_n, hasL_rep, hasL_flat, hasL_append, -List.map_set]) rfl) ?_
  refine AL.sm rfl (sm_box 5 rfl rfl rfl (by first | rfl | simp [S.clean, S.put, S.newObj, S.forget, V.has, V.hasL, junkIf, setL, V.cs, hasL_i, hasL_b, hasL_s, hasL_n, hasL_rep, hasL_flat, hasL_append, -List.map_set]) rfl) ?_
  refine AL.sm rfl (sm_alloc (l := [.d (.p (.int .i64 0)), .d (.p (.int .i64 0))]) 6 inf95 rfl (by first | rfl | simp [S.clean, S.put, S.newObj, S.forget, V.has, V.hasL, junkIf, setL, V.cs, hasL_i, hasL_b, hasL_s, hasL_n, hasL_rep, hasL_flat, hasL_append, -List.map_set]) rfl rfl) ?_
  refine AL.rp rfl rfl (rp_assign rfl rfl) ?_
  refine AL.nil ?_
  try simp only [thenS, S.put, S.newObj, setL, V.cs, List.length_cons, List.length_nil, List.take_succ_cons, List.take_zero, List.drop_succ_cons, List.drop_zero, List.drop_nil, List.nil_append, List.cons_append, List.append_nil, Nat.zero_add, Nat.reduceAdd, List.map_cons, List.map_nil, List.set_cons_zero, List.set_cons_succ, enum]
  refine AW.seq ?_
  refine AW.region ?_
  refine AL.rp rfl rfl (rp_build (vs := [(0, _), (1, _)]) (zs := [.d (.p (.int .i64 0)), .d (.p (.int .i64 0))]) pl95 inf95 rfl rfl rfl rfl) ?_
  refine AL.sm rfl (sm_alloc (l := [.d (.p (.int .i64 0)), .d (.p (.int .i64 0))]) 8 inf95 rfl (by first | rfl | simp [S.clean, S.put, S.newObj, S.forget, V.has, V.hasL, junkIf, setL, V.cs, hasL_i, hasL_b, hasL_s, hasL_n, hasL_rep, hasL_flat, hasL_append, -List.map_set]) rfl rfl) ?_
  refine AL.st rfl (st_store_any inf95 rfl rfl rfl rfl rfl rfl rfl rfl (by first | decide | (simp; done) | (simp; omega)) rfl) ?_
  refine AL.nil ?_
  try simp only [thenS, S.put, S.newObj, setL, V.cs, List.length_cons, List.length_nil, List.take_succ_cons, List.take_zero, List.drop_succ_cons, List.drop_zero, List.drop_nil, List.nil_append, List.cons_append, List.append_nil, Nat.zero_add, Nat.reduceAdd, List.map_cons, List.map_nil, List.set_cons_zero, List.set_cons_succ]
  refine AW.seq ?_
  refine AW.seq ?_
  refine AW.region ?_
  (first | (refine AL.rd rfl rfl (rd_loads_ref Try.underlying95 rfl inf95 rfl rfl rfl rfl rfl rfl) ?_) | (refine AL.rd rfl rfl (rd_loads_ad Try.underlying95 rfl inf95 rfl rfl rfl rfl) ?_))
  (first | (refine AL.rd rfl rfl (rd_loads_ref Try.underlying95 rfl inf95 rfl rfl rfl rfl rfl rfl) ?_) | (refine AL.rd rfl rfl (rd_loads_ad Try.underlying95 rfl inf95 rfl rfl rfl rfl) ?_))
  (first | (refine AL.rp rfl rfl (cmp_eql_95T rfl rfl rfl rfl (by first | assumption | rfl)) ?_) | (refine AL.rp rfl rfl (cmp_eql_95F rfl rfl rfl rfl (by first | assumption | rfl)) ?_))
  refine AL.rp rfl rfl (rp_move rfl rfl) ?_
  (first | (refine AL.noV rfl rfl rfl rfl ?_) | (refine AL.noU rfl ⟨_, rfl, rfl⟩ rfl ?_) | (refine AL.rdy rfl rfl rfl (rd_loads_ref Try.underlying95 rfl inf95 rfl rfl rfl rfl rfl rfl) ?_) | (refine AL.rdy rfl rfl rfl (rd_loads_ad Try.underlying95 rfl inf95 rfl rfl rfl rfl) ?_))
  (first | (refine AL.noV rfl rfl rfl rfl ?_) | (refine AL.noU rfl ⟨_, rfl, rfl⟩ rfl ?_) | (refine AL.rdy rfl rfl rfl (rd_loads_ref Try.underlying95 rfl inf95 rfl rfl rfl rfl rfl rfl) ?_) | (refine AL.rdy rfl rfl rfl (rd_loads_ad Try.underlying95 rfl inf95 rfl rfl rfl rfl) ?_))
  (first | (refine AL.noV rfl rfl rfl rfl ?_) | (refine AL.noU rfl ⟨_, rfl, rfl⟩ rfl ?_) | (refine AL.rpy rfl rfl rfl (cmp_eql_95T rfl rfl rfl rfl (by first | assumption | rfl)) ?_) | (refine AL.rpy rfl rfl rfl (cmp_eql_95F rfl rfl rfl rfl (by first | assumption | rfl)) ?_))
  refine AL.rp rfl rfl (rp_pick rfl rfl rfl) ?_
  refine AL.nil ?_
  try simp only [thenS, S.put]
  refine AW.condT rfl ?_
  refine AW.seq ?_
  refine AW.region ?_
  (first | (refine AL.rd rfl rfl (rd_loads_ref Try.underlying95 rfl inf95 rfl rfl rfl rfl rfl rfl) ?_) | (refine AL.rd rfl rfl (rd_loads_ad Try.underlying95 rfl inf95 rfl rfl rfl rfl) ?_))
  refine AL.st rfl (st_store_any inf95 rfl rfl rfl rfl rfl rfl rfl rfl (by first | decide | (simp; done) | (simp; omega)) rfl) ?_
  refine AL.rp rfl rfl (rp_assign rfl rfl) ?_
  refine AL.nil ?_
  try simp only [thenS, S.put, S.newObj, setL, V.cs, List.length_cons, List.length_nil, List.take_succ_cons, List.take_zero, List.drop_succ_cons, List.drop_zero, List.drop_nil, List.nil_append, List.cons_append, List.append_nil, Nat.zero_add, Nat.reduceAdd, List.map_cons, List.map_nil, List.set_cons_zero, List.set_cons_succ]
  refine AW.ret ?_
  exact ⟨[_, _], ⟨⟨6, 0, _, _, rfl, rfl, rfl, Try.underlying95, .inr ⟨rfl, _, _, _, _, inf95, rfl, rfl, rfl⟩⟩, rfl, trivial⟩, rfl, by simp [tupOf, V.pure, V.has, V.hasL]⟩
theorem am_times (a b x y : Int) (ha : 0 ≤ a ∧ a ≤ 1000000000) (hb : 0 ≤ b ∧ b ≤ 1000000000) (hx : 0 ≤ x ∧ x ≤ 1000000000) (hy : 0 ≤ y ∧ y ≤ 1000000000) : Fn Try.prog 107 [.agg [], .agg [.i a, .i b], .agg [.i x, .i y]] (fun v => v = .tup [.agg [.i (a + x), .i (b + y)], .b (decide (a + x ≤ 1000000000 ∧ b + y ≤ 1000000000))]) := by
 have n1 : ¬ (a = 1000000001 ∧ b = 1000000001) := by omega
 have n2 : ¬ (x = 1000000001 ∧ y = 1000000001) := by omega
 refine Fn.intro (n := 40) ⟨Try.func107, rfl, rfl, rfl, rfl⟩ (by simp [V.pure, V.has, V.hasL]) (by simp) fun w0 out => ?_
 by_cases h1 : a + x ≤ 1000000000
 ·by_cases h2 : b + y ≤ 1000000000
  ·skip
   refine AW.seq ?_
   refine AW.region ?_
   refine AL.sm rfl (sm_box 3 rfl rfl rfl (by first | rfl | simp [S.clean, S.put, S.newObj, S.forget, V.has, V.hasL, junkIf, setL, V.cs, hasL_i, hasL_b, hasL_s, hasL_n, hasL_rep, hasL_flat, hasL_append, -List.map_set]) rfl) ?_
   refine AL.sm rfl (sm_box 4 rfl rfl rfl (by first | rfl | simp [S.clean, S.put, S.newObj, S.forget, V.has, V.hasL, junkIf, setL, V.cs, hasL_i, hasL_b, hasL_s, hasL_n, hasL_rep, hasL_flat, hasL_append, -List.map_set]) rfl) ?_
   refine AL.sm rfl (sm_box 5 rfl rfl rfl (by first | rfl | simp [S.clean, S.put, S.newObj, S.forget, V.has, V.hasL, junkIf, setL, V.cs, hasL_i, hasL_b, hasL_s, hasL_n, hasL_rep, hasL_flat, hasL_append, -List.map_set]) rfl) ?_
   refine AL.sm rfl (sm_alloc (l := [.d (.p (.int .i64 0)), .d (.p (.int .i64 0))]) 6 inf95 rfl (by first | rfl | simp [S.clean, S.put, S.newObj, S.forget, V.has, V.hasL, junkIf, setL, V.cs, hasL_i, hasL_b, hasL_s, hasL_n, hasL_rep, hasL_flat, hasL_append, -List.map_set]) rfl rfl) ?_
   refine AL.rp rfl rfl (rp_assign rfl rfl) ?_
   refine AL.nil ?_
   try simp only [thenS, S.put, S.newObj, setL, V.cs, List.length_cons, List.length_nil, List.take_succ_cons, List.take_zero, List.drop_succ_cons, List.drop_zero, List.drop_nil, List.nil_append, List.cons_append, List.append_nil, Nat.zero_add, Nat.reduceAdd, List.map_cons, List.map_nil, List.set_cons_zero, List.set_cons_succ, enum]
   refine AW.seq ?_
   refine AW.region ?_
   refine AL.rp rfl rfl (rp_build (vs := [(0, _), (1, _)]) (zs := [.d (.p (.int .i64 0)), .d (.p (.int .i64 0))]) pl95 inf95 rfl rfl rfl rfl) ?_
   refine AL.sm rfl (sm_alloc (l := [.d (.p (.int .i64 0)), .d (.p (.int .i64 0))]) 8 inf95 rfl (by first | rfl | simp [S.clean, S.put, S.newObj, S.forget, V.has, V.hasL, junkIf, setL, V.cs, hasL_i, hasL_b, hasL_s, hasL_n, hasL_rep, hasL_flat, hasL_append, -List.map_set]) rfl rfl) ?_
   refine AL.st rfl (st_store_any inf95 rfl rfl rfl rfl rfl rfl rfl rfl (by first | decide | (simp; done) | (simp; omega)) rfl) ?_
   refine AL.nil ?_
   try simp only [thenS, S.put, S.newObj, setL, V.cs, List.length_cons, List.length_nil, List.take_succ_cons, List.take_zero, List.drop_succ_cons, List.drop_zero, List.drop_nil, List.nil_append, List.cons_append, List.append_nil, Nat.zero_add, Nat.reduceAdd, List.map_cons, List.map_nil, List.set_cons_zero, List.set_cons_succ]
   refine AW.seq ?_
   refine AW.seq ?_
   refine AW.region ?_
   (first | (refine AL.rd rfl rfl (rd_loads_ref Try.underlying95 rfl inf95 rfl rfl rfl rfl rfl rfl) ?_) | (refine AL.rd rfl rfl (rd_loads_ad Try.underlying95 rfl inf95 rfl rfl rfl rfl) ?_))
   (first | (refine AL.rd rfl rfl (rd_loads_ref Try.underlying95 rfl inf95 rfl rfl rfl rfl rfl rfl) ?_) | (refine AL.rd rfl rfl (rd_loads_ad Try.underlying95 rfl inf95 rfl rfl rfl rfl) ?_))
   (first | (refine AL.rp rfl rfl (cmp_eql_95T rfl rfl rfl rfl (by first | assumption | rfl)) ?_) | (refine AL.rp rfl rfl (cmp_eql_95F rfl rfl rfl rfl (by first | assumption | rfl)) ?_))
   refine AL.rp rfl rfl (rp_move rfl rfl) ?_
   (first | (refine AL.noV rfl rfl rfl rfl ?_) | (refine AL.noU rfl ⟨_, rfl, rfl⟩ rfl ?_) | (refine AL.rdy rfl rfl rfl (rd_loads_ref Try.underlying95 rfl inf95 rfl rfl rfl rfl rfl rfl) ?_) | (refine AL.rdy rfl rfl rfl (rd_loads_ad Try.underlying95 rfl inf95 rfl rfl rfl rfl) ?_))
   (first | (refine AL.noV rfl rfl rfl rfl ?_) | (refine AL.noU rfl ⟨_, rfl, rfl⟩ rfl ?_) | (refine AL.rdy rfl rfl rfl (rd_loads_ref Try.underlying95 rfl inf95 rfl rfl rfl rfl rfl rfl) ?_) | (refine AL.rdy rfl rfl rfl (rd_loads_ad Try.underlying95 rfl inf95 rfl rfl rfl rfl) ?_))
   (first | (refine AL.noV rfl rfl rfl rfl ?_) | (refine AL.noU rfl ⟨_, rfl, rfl⟩ rfl ?_) | (refine AL.rpy rfl rfl rfl (cmp_eql_95T rfl rfl rfl rfl (by first | assumption | rfl)) ?_) | (refine AL.rpy rfl rfl rfl (cmp_eql_95F rfl rfl rfl rfl (by first | assumption | rfl)) ?_))
   refine AL.rp rfl rfl (rp_pick rfl rfl rfl) ?_
   refine AL.nil ?_
   try simp only [thenS, S.put]
   refine AW.condF rfl ?_
   refine AW.skip ?_
   try simp only [thenS]
   refine AW.seq ?_
   refine AW.region ?_
   (first | (refine AL.rp rfl rfl (rp_field_ref Try.underlying95 rfl rfl rfl inf3 (by decide) rfl) ?_) | (refine AL.rp rfl rfl (rp_field_ad Try.underlying95 rfl rfl rfl inf3 (by decide) rfl) ?_))
   (first | (refine AL.rd rfl rfl (rd_load_ref Try.underlying3 rfl rfl rfl rfl rfl rfl) ?_) | (refine AL.rd rfl rfl (rd_load_ad Try.underlying3 rfl rfl rfl rfl) ?_) | (refine AL.rd rfl rfl (rd_load_map Try.underlying3 rfl rfl rfl rfl rfl rfl (by assumption)) ?_) | (refine AL.rd rfl rfl (rd_load_flat Try.underlying3 rfl rfl rfl rfl rfl rfl (fun _ => rfl) (by assumption) rfl) ?_))
   (first | (refine AL.rp rfl rfl (rp_field_ref Try.underlying95 rfl rfl rfl inf3 (by decide) rfl) ?_) | (refine AL.rp rfl rfl (rp_field_ad Try.underlying95 rfl rfl rfl inf3 (by decide) rfl) ?_))
   (first | (refine AL.rd rfl rfl (rd_load_ref Try.underlying3 rfl rfl rfl rfl rfl rfl) ?_) | (refine AL.rd rfl rfl (rd_load_ad Try.underlying3 rfl rfl rfl rfl) ?_) | (refine AL.rd rfl rfl (rd_load_map Try.underlying3 rfl rfl rfl rfl rfl rfl (by assumption)) ?_) | (refine AL.rd rfl rfl (rd_load_flat Try.underlying3 rfl rfl rfl rfl rfl rfl (fun _ => rfl) (by assumption) rfl) ?_))
   refine AL.rp rfl rfl (rp_add rfl rfl rfl (by first | omega | (dsimp only; omega))) ?_
   (first | (refine AL.rp rfl rfl (rp_field_ref Try.underlying95 rfl rfl rfl inf3 (by decide) rfl) ?_) | (refine AL.rp rfl rfl (rp_field_ad Try.underlying95 rfl rfl rfl inf3 (by decide) rfl) ?_))
   (first | (refine AL.rd rfl rfl (rd_load_ref Try.underlying3 rfl rfl rfl rfl rfl rfl) ?_) | (refine AL.rd rfl rfl (rd_load_ad Try.underlying3 rfl rfl rfl rfl) ?_) | (refine AL.rd rfl rfl (rd_load_map Try.underlying3 rfl rfl rfl rfl rfl rfl (by assumption)) ?_) | (refine AL.rd rfl rfl (rd_load_flat Try.underlying3 rfl rfl rfl rfl rfl rfl (fun _ => rfl) (by assumption) rfl) ?_))
   (first | (refine AL.rp rfl rfl (rp_field_ref Try.underlying95 rfl rfl rfl inf3 (by decide) rfl) ?_) | (refine AL.rp rfl rfl (rp_field_ad Try.underlying95 rfl rfl rfl inf3 (by decide) rfl) ?_))
   (first | (refine AL.rd rfl rfl (rd_load_ref Try.underlying3 rfl rfl rfl rfl rfl rfl) ?_) | (refine AL.rd rfl rfl (rd_load_ad Try.underlying3 rfl rfl rfl rfl) ?_) | (refine AL.rd rfl rfl (rd_load_map Try.underlying3 rfl rfl rfl rfl rfl rfl (by assumption)) ?_) | (refine AL.rd rfl rfl (rd_load_flat Try.underlying3 rfl rfl rfl rfl rfl rfl (fun _ => rfl) (by assumption) rfl) ?_))
   refine AL.rp rfl rfl (rp_add rfl rfl rfl (by first | omega | (dsimp only; omega))) ?_
   refine AL.rp rfl rfl (rp_build (vs := [(0, _), (1, _)]) (zs := [.d (.p (.int .i64 0)), .d (.p (.int .i64 0))]) pl95 inf95 rfl rfl rfl rfl) ?_
   refine AL.sm rfl (sm_alloc (l := [.d (.p (.int .i64 0)), .d (.p (.int .i64 0))]) 9 inf95 rfl (by first | rfl | simp [S.clean, S.put, S.newObj, S.forget, V.has, V.hasL, junkIf, setL, V.cs, hasL_i, hasL_b, hasL_s, hasL_n, hasL_rep, hasL_flat, hasL_append, -List.map_set]) rfl rfl) ?_
   refine AL.st rfl (st_store_any inf95 rfl rfl rfl rfl rfl rfl rfl rfl (by first | decide | (simp; done) | (simp; omega)) rfl) ?_
   refine AL.nil ?_
   try simp only [thenS, S.put, S.newObj, setL, V.cs, List.length_cons, List.length_nil, List.take_succ_cons, List.take_zero, List.drop_succ_cons, List.drop_zero, List.drop_nil, List.nil_append, List.cons_append, List.append_nil, Nat.zero_add, Nat.reduceAdd, List.map_cons, List.map_nil, List.set_cons_zero, List.set_cons_succ]
   refine AW.seq ?_
   refine AW.drawX (6) [(0, true), (1, true), (2, true), (3, true), (4, true), (5, true), (6, true), (7, true), (8, true), (9, false), (10, false)] (fun i => !([] : List Nat).contains i) 11 (by kernel_rfl) (by kernel_rfl) rfl (by kernel_rfl) ?_
   (first | (refine AE1.rx rfl rfl rfl (fun _ _ h => h) (rx_loads_ref Try.underlying95 rfl inf95 rfl rfl rfl rfl rfl rfl (by first | decide | omega)) ?_))
   (first | (refine AE1.rp rfl rfl rfl (fun _ _ h => h) (rp_field_ref Try.underlying95 rfl rfl rfl inf3 (by decide) rfl) ?_) | (refine AE1.rp rfl rfl rfl (fun _ _ h => h) (rp_field_ad Try.underlying95 rfl rfl rfl inf3 (by decide) rfl) ?_))
   (first | (refine AE1.rx rfl rfl rfl (fun _ _ h => h) (rx_load_ref Try.underlying3 rfl rfl rfl rfl rfl rfl (by first | decide | omega)) ?_) | (refine AE1.rx rfl rfl rfl (fun _ _ h => h) (rx_load_ad Try.underlying3 rfl rfl rfl rfl) ?_) | (refine AE1.rx rfl rfl rfl (fun _ _ h => h) (rx_load_fam (m := 0) Try.underlying3 rfl rfl rfl rfl rfl rfl (fun _ => rfl) rfl (by assumption) (by first | decide | omega)) ?_) | (refine AE1.rx rfl rfl rfl (fun _ _ h => h) (rx_load_fam (m := 1) Try.underlying3 rfl rfl rfl rfl rfl rfl (fun _ => rfl) rfl (by assumption) (by first | decide | omega)) ?_))
   (first | (refine AE1.rp rfl rfl rfl (fun _ _ h => h) (rp_leqT rfl rfl rfl (by first | assumption | omega | (dsimp only; omega))) ?_) | (refine AE1.rp rfl rfl rfl (fun _ _ h => h) (rp_leqF rfl rfl rfl (by first | assumption | omega | (dsimp only; omega))) ?_) | (refine AE1.rp rfl rfl rfl (fun _ _ h => h) (rp_leq rfl rfl rfl) ?_))
   refine AE1.rp rfl rfl rfl (fun _ _ h => h) (rp_move rfl rfl) ?_
   (first | (refine AE1.noV rfl rfl rfl rfl rfl (fun _ _ h => h) ?_) | (refine AE1.noU rfl rfl ⟨_, rfl, rfl⟩ rfl (fun _ _ h => h) ?_) | (refine AE1.rpy rfl rfl rfl rfl (fun _ _ h => h) (rp_field_ref Try.underlying95 rfl rfl rfl inf3 (by decide) rfl) ?_) | (refine AE1.rpy rfl rfl rfl rfl (fun _ _ h => h) (rp_field_ad Try.underlying95 rfl rfl rfl inf3 (by decide) rfl) ?_))
   (first | (refine AE1.noV rfl rfl rfl rfl rfl (fun _ _ h => h) ?_) | (refine AE1.noU rfl rfl ⟨_, rfl, rfl⟩ rfl (fun _ _ h => h) ?_) | (refine AE1.rxy rfl rfl rfl rfl (fun _ _ h => h) (rx_load_ref Try.underlying3 rfl rfl rfl rfl rfl rfl (by first | decide | omega)) ?_) | (refine AE1.noV rfl rfl rfl rfl rfl (fun _ _ h => h) ?_) | (refine AE1.noU rfl rfl ⟨_, rfl, rfl⟩ rfl (fun _ _ h => h) ?_) | (refine AE1.rxy rfl rfl rfl rfl (fun _ _ h => h) (rx_load_ad Try.underlying3 rfl rfl rfl rfl) ?_) | (refine AE1.noV rfl rfl rfl rfl rfl (fun _ _ h => h) ?_) | (refine AE1.noU rfl rfl ⟨_, rfl, rfl⟩ rfl (fun _ _ h => h) ?_) | (refine AE1.rxy rfl rfl rfl rfl (fun _ _ h => h) (rx_load_fam (m := 0) Try.underlying3 rfl rfl rfl rfl rfl rfl (fun _ => rfl) rfl (by assumption) (by first | decide | omega)) ?_) | (refine AE1.noV rfl rfl rfl rfl rfl (fun _ _ h => h) ?_) | (refine AE1.noU rfl rfl ⟨_, rfl, rfl⟩ rfl (fun _ _ h => h) ?_) | (refine AE1.rxy rfl rfl rfl rfl (fun _ _ h => h) (rx_load_fam (m := 1) Try.underlying3 rfl rfl rfl rfl rfl rfl (fun _ => rfl) rfl (by assumption) (by first | decide | omega)) ?_))
   (first | (refine AE1.noV rfl rfl rfl rfl rfl (fun _ _ h => h) ?_) | (refine AE1.noU rfl rfl ⟨_, rfl, rfl⟩ rfl (fun _ _ h => h) ?_) | (refine AE1.rpy rfl rfl rfl rfl (fun _ _ h => h) (rp_leqT rfl rfl rfl (by first | assumption | omega | (dsimp only; omega))) ?_) | (refine AE1.rpy rfl rfl rfl rfl (fun _ _ h => h) (rp_leqF rfl rfl rfl (by first | assumption | omega | (dsimp only; omega))) ?_) | (refine AE1.rpy rfl rfl rfl rfl (fun _ _ h => h) (rp_leq rfl rfl rfl) ?_))
   refine AE1.rp rfl rfl rfl (fun _ _ h => h) (rp_pick rfl rfl rfl) ?_
   refine AE1.go ?_
   refine AE2.stS rfl rfl (st_store_anyS inf95 rfl rfl rfl rfl rfl rfl rfl rfl (by first | decide | (simp; done) | (simp; omega)) rfl) rfl ?_
   refine AE2.rp1 rfl rfl rfl (rp_assign rfl rfl) ?_
   refine AE2.nil ?_
   try simp only [thenS, S.put, S.newObj, setL, V.cs, List.length_cons, List.length_nil, List.take_succ_cons, List.take_zero, List.drop_succ_cons, List.drop_zero, List.drop_nil, List.nil_append, List.cons_append, List.append_nil, Nat.zero_add, Nat.reduceAdd, List.map_cons, List.map_nil, List.set_cons_zero, List.set_cons_succ]
   refine AW.ret ?_
   exact ⟨[_, _], ⟨⟨6, 0, _, _, rfl, rfl, rfl, Try.underlying95, .inr ⟨rfl, _, _, _, _, inf95, rfl, rfl, rfl⟩⟩, rfl, trivial⟩, by simp [tupOf, h1, h2], by simp [tupOf, V.pure, V.has, V.hasL]⟩
  ·skip
   refine AW.seq ?_
   refine AW.region ?_
   refine AL.sm rfl (sm_box 3 rfl rfl rfl (by first | rfl | simp [S.clean, S.put, S.newObj, S.forget, V.has, V.hasL, junkIf, setL, V.cs, hasL_i, hasL_b, hasL_s, hasL_n, hasL_rep, hasL_flat, hasL_append, -List.map_set]) rfl) ?_
   refine AL.sm rfl (sm_box 4 rfl rfl rfl (by first | rfl | simp [S.clean, S.put, S.newObj, S.forget, V.has, V.hasL, junkIf, setL, V.cs, hasL_i, hasL_b, hasL_s, hasL_n, hasL_rep, hasL_flat, hasL_append, -List.map_set]) rfl) ?_
   refine AL.sm rfl (sm_box 5 rfl rfl rfl (by first | rfl | simp [S.clean, S.put, S.newObj, S.forget, V.has, V.hasL, junkIf, setL, V.cs, hasL_i, hasL_b, hasL_s, hasL_n, hasL_rep, hasL_flat, hasL_append, -List.map_set]) rfl) ?_
   refine AL.sm rfl (sm_alloc (l := [.d (.p (.int .i64 0)), .d (.p (.int .i64 0))]) 6 inf95 rfl (by first | rfl | simp [S.clean, S.put, S.newObj, S.forget, V.has, V.hasL, junkIf, setL, V.cs, hasL_i, hasL_b, hasL_s, hasL_n, hasL_rep, hasL_flat, hasL_append, -List.map_set]) rfl rfl) ?_
   refine AL.rp rfl rfl (rp_assign rfl rfl) ?_
   refine AL.nil ?_
   try simp only [thenS, S.put, S.newObj, setL, V.cs, List.length_cons, List.length_nil, List.take_succ_cons, List.take_zero, List.drop_succ_cons, List.drop_zero, List.drop_nil, List.nil_append, List.cons_append, List.append_nil, Nat.zero_add, Nat.reduceAdd, List.map_cons, List.map_nil, List.set_cons_zero, List.set_cons_succ, enum]
   refine AW.seq ?_
   refine AW.region ?_
   refine AL.rp rfl rfl (rp_build (vs := [(0, _), (1, _)]) (zs := [.d (.p (.int .i64 0)), .d (.p (.int .i64 0))]) pl95 inf95 rfl rfl rfl rfl) ?_
   refine AL.sm rfl (sm_alloc (l := [.d (.p (.int .i64 0)), .d (.p (.int .i64 0))]) 8 inf95 rfl (by first | rfl | simp [S.clean, S.put, S.newObj, S.forget, V.has, V.hasL, junkIf, setL, V.cs, hasL_i, hasL_b, hasL_s, hasL_n, hasL_rep, hasL_flat, hasL_append, -List.map_set]) rfl rfl) ?_
   refine AL.st rfl (st_store_any inf95 rfl rfl rfl rfl rfl rfl rfl rfl (by first | decide | (simp; done) | (simp; omega)) rfl) ?_
   refine AL.nil ?_
   try simp only [thenS, S.put, S.newObj, setL, V.cs, List.length_cons, List.length_nil, List.take_succ_cons, List.take_zero, List.drop_succ_cons, List.drop_zero, List.drop_nil, List.nil_append, List.cons_append, List.append_nil, Nat.zero_add, Nat.reduceAdd, List.map_cons, List.map_nil, List.set_cons_zero, List.set_cons_succ]
   refine AW.seq ?_
   refine AW.seq ?_
   refine AW.region ?_
   (first | (refine AL.rd rfl rfl (rd_loads_ref Try.underlying95 rfl inf95 rfl rfl rfl rfl rfl rfl) ?_) | (refine AL.rd rfl rfl (rd_loads_ad Try.underlying95 rfl inf95 rfl rfl rfl rfl) ?_))
   (first | (refine AL.rd rfl rfl (rd_loads_ref Try.underlying95 rfl inf95 rfl rfl rfl rfl rfl rfl) ?_) | (refine AL.rd rfl rfl (rd_loads_ad Try.underlying95 rfl inf95 rfl rfl rfl rfl) ?_))
   (first | (refine AL.rp rfl rfl (cmp_eql_95T rfl rfl rfl rfl (by first | assumption | rfl)) ?_) | (refine AL.rp rfl rfl (cmp_eql_95F rfl rfl rfl rfl (by first | assumption | rfl)) ?_))
   refine AL.rp rfl rfl (rp_move rfl rfl) ?_
   (first | (refine AL.noV rfl rfl rfl rfl ?_) | (refine AL.noU rfl ⟨_, rfl, rfl⟩ rfl ?_) | (refine AL.rdy rfl rfl rfl (rd_loads_ref Try.underlying95 rfl inf95 rfl rfl rfl rfl rfl rfl) ?_) | (refine AL.rdy rfl rfl rfl (rd_loads_ad Try.underlying95 rfl inf95 rfl rfl rfl rfl) ?_))
   (first | (refine AL.noV rfl rfl rfl rfl ?_) | (refine AL.noU rfl ⟨_, rfl, rfl⟩ rfl ?_) | (refine AL.rdy rfl rfl rfl (rd_loads_ref Try.underlying95 rfl inf95 rfl rfl rfl rfl rfl rfl) ?_) | (refine AL.rdy rfl rfl rfl (rd_loads_ad Try.underlying95 rfl inf95 rfl rfl rfl rfl) ?_))
   (first | (refine AL.noV rfl rfl rfl rfl ?_) | (refine AL.noU rfl ⟨_, rfl, rfl⟩ rfl ?_) | (refine AL.rpy rfl rfl rfl (cmp_eql_95T rfl rfl rfl rfl (by first | assumption | rfl)) ?_) | (refine AL.rpy rfl rfl rfl (cmp_eql_95F rfl rfl rfl rfl (by first | assumption | rfl)) ?_))
   refine AL.rp rfl rfl (rp_pick rfl rfl rfl) ?_
   refine AL.nil ?_
   try simp only [thenS, S.put]
   refine AW.condF rfl ?_
   refine AW.skip ?_
   try simp only [thenS]
   refine AW.seq ?_
   refine AW.region ?_
   (first | (refine AL.rp rfl rfl (rp_field_ref Try.underlying95 rfl rfl rfl inf3 (by decide) rfl) ?_) | (refine AL.rp rfl rfl (rp_field_ad Try.underlying95 rfl rfl rfl inf3 (by decide) rfl) ?_))
   (first | (refine AL.rd rfl rfl (rd_load_ref Try.underlying3 rfl rfl rfl rfl rfl rfl) ?_) | (refine AL.rd rfl rfl (rd_load_ad Try.underlying3 rfl rfl rfl rfl) ?_) | (refine AL.rd rfl rfl (rd_load_map Try.underlying3 rfl rfl rfl rfl rfl rfl (by assumption)) ?_) | (refine AL.rd rfl rfl (rd_load_flat Try.underlying3 rfl rfl rfl rfl rfl rfl (fun _ => rfl) (by assumption) rfl) ?_))
   (first | (refine AL.rp rfl rfl (rp_field_ref Try.underlying95 rfl rfl rfl inf3 (by decide) rfl) ?_) | (refine AL.rp rfl rfl (rp_field_ad Try.underlying95 rfl rfl rfl inf3 (by decide) rfl) ?_))
   (first | (refine AL.rd rfl rfl (rd_load_ref Try.underlying3 rfl rfl rfl rfl rfl rfl) ?_) | (refine AL.rd rfl rfl (rd_load_ad Try.underlying3 rfl rfl rfl rfl) ?_) | (refine AL.rd rfl rfl (rd_load_map Try.underlying3 rfl rfl rfl rfl rfl rfl (by assumption)) ?_) | (refine AL.rd rfl rfl (rd_load_flat Try.underlying3 rfl rfl rfl rfl rfl rfl (fun _ => rfl) (by assumption) rfl) ?_))
   refine AL.rp rfl rfl (rp_add rfl rfl rfl (by first | omega | (dsimp only; omega))) ?_
   (first | (refine AL.rp rfl rfl (rp_field_ref Try.underlying95 rfl rfl rfl inf3 (by decide) rfl) ?_) | (refine AL.rp rfl rfl (rp_field_ad Try.underlying95 rfl rfl rfl inf3 (by decide) rfl) ?_))
   (first | (refine AL.rd rfl rfl (rd_load_ref Try.underlying3 rfl rfl rfl rfl rfl rfl) ?_) | (refine AL.rd rfl rfl (rd_load_ad Try.underlying3 rfl rfl rfl rfl) ?_) | (refine AL.rd rfl rfl (rd_load_map Try.underlying3 rfl rfl rfl rfl rfl rfl (by assumption)) ?_) | (refine AL.rd rfl rfl (rd_load_flat Try.underlying3 rfl rfl rfl rfl rfl rfl (fun _ => rfl) (by assumption) rfl) ?_))
   (first | (refine AL.rp rfl rfl (rp_field_ref Try.underlying95 rfl rfl rfl inf3 (by decide) rfl) ?_) | (refine AL.rp rfl rfl (rp_field_ad Try.underlying95 rfl rfl rfl inf3 (by decide) rfl) ?_))
   (first | (refine AL.rd rfl rfl (rd_load_ref Try.underlying3 rfl rfl rfl rfl rfl rfl) ?_) | (refine AL.rd rfl rfl (rd_load_ad Try.underlying3 rfl rfl rfl rfl) ?_) | (refine AL.rd rfl rfl (rd_load_map Try.underlying3 rfl rfl rfl rfl rfl rfl (by assumption)) ?_) | (refine AL.rd rfl rfl (rd_load_flat Try.underlying3 rfl rfl rfl rfl rfl rfl (fun _ => rfl) (by assumption) rfl) ?_))
   refine AL.rp rfl rfl (rp_add rfl rfl rfl (by first | omega | (dsimp only; omega))) ?_
   refine AL.rp rfl rfl (rp_build (vs := [(0, _), (1, _)]) (zs := [.d (.p (.int .i64 0)), .d (.p (.int .i64 0))]) pl95 inf95 rfl rfl rfl rfl) ?_
   refine AL.sm rfl (sm_alloc (l := [.d (.p (.int .i64 0)), .d (.p (.int .i64 0))]) 9 inf95 rfl (by first | rfl | simp [S.clean, S.put, S.newObj, S.forget, V.has, V.hasL, junkIf, setL, V.cs, hasL_i, hasL_b, hasL_s, hasL_n, hasL_rep, hasL_flat, hasL_append, -List.map_set]) rfl rfl) ?_
   refine AL.st rfl (st_store_any inf95 rfl rfl rfl rfl rfl rfl rfl rfl (by first | decide | (simp; done) | (simp; omega)) rfl) ?_
   refine AL.nil ?_
   try simp only [thenS, S.put, S.newObj, setL, V.cs, List.length_cons, List.length_nil, List.take_succ_cons, List.take_zero, List.drop_succ_cons, List.drop_zero, List.drop_nil, List.nil_append, List.cons_append, List.append_nil, Nat.zero_add, Nat.reduceAdd, List.map_cons, List.map_nil, List.set_cons_zero, List.set_cons_succ]
   refine AW.seq ?_
   refine AW.drawX (6) [(0, true), (1, true), (2, true), (3, true), (4, true), (5, true), (6, true), (7, true), (8, true), (9, false), (10, false)] (fun i => !([] : List Nat).contains i) 11 (by kernel_rfl) (by kernel_rfl) rfl (by kernel_rfl) ?_
   (first | (refine AE1.rx rfl rfl rfl (fun _ _ h => h) (rx_loads_ref Try.underlying95 rfl inf95 rfl rfl rfl rfl rfl rfl (by first | decide | omega)) ?_))
   (first | (refine AE1.rp rfl rfl rfl (fun _ _ h => h) (rp_field_ref Try.underlying95 rfl rfl rfl inf3 (by decide) rfl) ?_) | (refine AE1.rp rfl rfl rfl (fun _ _ h => h) (rp_field_ad Try.underlying95 rfl rfl rfl inf3 (by decide) rfl) ?_))
   (first | (refine AE1.rx rfl rfl rfl (fun _ _ h => h) (rx_load_ref Try.underlying3 rfl rfl rfl rfl rfl rfl (by first | decide | omega)) ?_) | (refine AE1.rx rfl rfl rfl (fun _ _ h => h) (rx_load_ad Try.underlying3 rfl rfl rfl rfl) ?_) | (refine AE1.rx rfl rfl rfl (fun _ _ h => h) (rx_load_fam (m := 0) Try.underlying3 rfl rfl rfl rfl rfl rfl (fun _ => rfl) rfl (by assumption) (by first | decide | omega)) ?_) | (refine AE1.rx rfl rfl rfl (fun _ _ h => h) (rx_load_fam (m := 1) Try.underlying3 rfl rfl rfl rfl rfl rfl (fun _ => rfl) rfl (by assumption) (by first | decide | omega)) ?_))
   (first | (refine AE1.rp rfl rfl rfl (fun _ _ h => h) (rp_leqT rfl rfl rfl (by first | assumption | omega | (dsimp only; omega))) ?_) | (refine AE1.rp rfl rfl rfl (fun _ _ h => h) (rp_leqF rfl rfl rfl (by first | assumption | omega | (dsimp only; omega))) ?_) | (refine AE1.rp rfl rfl rfl (fun _ _ h => h) (rp_leq rfl rfl rfl) ?_))
   refine AE1.rp rfl rfl rfl (fun _ _ h => h) (rp_move rfl rfl) ?_
   (first | (refine AE1.noV rfl rfl rfl rfl rfl (fun _ _ h => h) ?_) | (refine AE1.noU rfl rfl ⟨_, rfl, rfl⟩ rfl (fun _ _ h => h) ?_) | (refine AE1.rpy rfl rfl rfl rfl (fun _ _ h => h) (rp_field_ref Try.underlying95 rfl rfl rfl inf3 (by decide) rfl) ?_) | (refine AE1.rpy rfl rfl rfl rfl (fun _ _ h => h) (rp_field_ad Try.underlying95 rfl rfl rfl inf3 (by decide) rfl) ?_))
   (first | (refine AE1.noV rfl rfl rfl rfl rfl (fun _ _ h => h) ?_) | (refine AE1.noU rfl rfl ⟨_, rfl, rfl⟩ rfl (fun _ _ h => h) ?_) | (refine AE1.rxy rfl rfl rfl rfl (fun _ _ h => h) (rx_load_ref Try.underlying3 rfl rfl rfl rfl rfl rfl (by first | decide | omega)) ?_) | (refine AE1.noV rfl rfl rfl rfl rfl (fun _ _ h => h) ?_) | (refine AE1.noU rfl rfl ⟨_, rfl, rfl⟩ rfl (fun _ _ h => h) ?_) | (refine AE1.rxy rfl rfl rfl rfl (fun _ _ h => h) (rx_load_ad Try.underlying3 rfl rfl rfl rfl) ?_) | (refine AE1.noV rfl rfl rfl rfl rfl (fun _ _ h => h) ?_) | (refine AE1.noU rfl rfl ⟨_, rfl, rfl⟩ rfl (fun _ _ h => h) ?_) | (refine AE1.rxy rfl rfl rfl rfl (fun _ _ h => h) (rx_load_fam (m := 0) Try.underlying3 rfl rfl rfl rfl rfl rfl (fun _ => rfl) rfl (by assumption) (by first | decide | omega)) ?_) | (refine AE1.noV rfl rfl rfl rfl rfl (fun _ _ h => h) ?_) | (refine AE1.noU rfl rfl ⟨_, rfl, rfl⟩ rfl (fun _ _ h => h) ?_) | (refine AE1.rxy rfl rfl rfl rfl (fun _ _ h => h) (rx_load_fam (m := 1) Try.underlying3 rfl rfl rfl rfl rfl rfl (fun _ => rfl) rfl (by assumption) (by first | decide | omega)) ?_))
   (first | (refine AE1.noV rfl rfl rfl rfl rfl (fun _ _ h => h) ?_) | (refine AE1.noU rfl rfl ⟨_, rfl, rfl⟩ rfl (fun _ _ h => h) ?_) | (refine AE1.rpy rfl rfl rfl rfl (fun _ _ h => h) (rp_leqT rfl rfl rfl (by first | assumption | omega | (dsimp only; omega))) ?_) | (refine AE1.rpy rfl rfl rfl rfl (fun _ _ h => h) (rp_leqF rfl rfl rfl (by first | assumption | omega | (dsimp only; omega))) ?_) | (refine AE1.rpy rfl rfl rfl rfl (fun _ _ h => h) (rp_leq rfl rfl rfl) ?_))
   refine AE1.rp rfl rfl rfl (fun _ _ h => h) (rp_pick rfl rfl rfl) ?_
   refine AE1.go ?_
   refine AE2.stS rfl rfl (st_store_anyS inf95 rfl rfl rfl rfl rfl rfl rfl rfl (by first | decide | (simp; done) | (simp; omega)) rfl) rfl ?_
   refine AE2.rp1 rfl rfl rfl (rp_assign rfl rfl) ?_
   refine AE2.nil ?_
   try simp only [thenS, S.put, S.newObj, setL, V.cs, List.length_cons, List.length_nil, List.take_succ_cons, List.take_zero, List.drop_succ_cons, List.drop_zero, List.drop_nil, List.nil_append, List.cons_append, List.append_nil, Nat.zero_add, Nat.reduceAdd, List.map_cons, List.map_nil, List.set_cons_zero, List.set_cons_succ]
   refine AW.ret ?_
   exact ⟨[_, _], ⟨⟨6, 0, _, _, rfl, rfl, rfl, Try.underlying95, .inr ⟨rfl, _, _, _, _, inf95, rfl, rfl, rfl⟩⟩, rfl, trivial⟩, by simp [tupOf, h1, h2], by simp [tupOf, V.pure, V.has, V.hasL]⟩
 ·skip
  refine AW.seq ?_
  refine AW.region ?_
  refine AL.sm rfl (sm_box 3 rfl rfl rfl (by first | rfl | simp [S.clean, S.put, S.newObj, S.forget, V.has, V.hasL, junkIf, setL, V.cs, hasL_i, hasL_b, hasL_s, hasL_n, hasL_rep, hasL_flat, hasL_append, -List.map_set]) rfl) ?_
  refine AL.sm rfl (sm_box 4 rfl rfl rfl (by first | rfl | simp [S.clean, S.put, S.newObj, S.forget, V.has, V.hasL, junkIf, setL, V.cs, hasL_i, hasL_b, hasL_s, hasL_n, hasL_rep, hasL_flat, hasL_append, -List.map_set]) rfl) ?_
  refine AL.sm rfl (sm_box 5 rfl rfl rfl (by first | rfl | simp [S.clean, S.put, S.newObj, S.forget, V.has, V.hasL, junkIf, setL, V.cs, hasL_i, hasL_b, hasL_s, hasL_n, hasL_rep, hasL_flat, hasL_append, -List.map_set]) rfl) ?_
  refine AL.sm rfl (sm_alloc (l := [.d (.p (.int .i64 0)), .d (.p (.int .i64 0))]) 6 inf95 rfl (by first | rfl | simp [S.clean, S.put, S.newObj, S.forget, V.has, V.hasL, junkIf, setL, V.cs, hasL_i, hasL_b, hasL_s, hasL_n, hasL_rep, hasL_flat, hasL_append, -List.map_set]) rfl rfl) ?_
  refine AL.rp rfl rfl (rp_assign rfl rfl) ?_
  refine AL.nil ?_
  try simp only [thenS, S.put, S.newObj, setL, V.cs, List.length_cons, List.length_nil, List.take_succ_cons, List.take_zero, List.drop_succ_cons, List.drop_zero, List.drop_nil, List.nil_append, List.cons_append, List.append_nil, Nat.zero_add, Nat.reduceAdd, List.map_cons, List.map_nil, List.set_cons_zero, List.set_cons_succ, enum]
  refine AW.seq ?_
  refine AW.region ?_
  refine AL.rp rfl rfl (rp_build (vs := [(0, _), (1, _)]) (zs := [.d (.p (.int .i64 0)), .d (.p (.int .i64 0))]) pl95 inf95 rfl rfl rfl rfl) ?_
  refine AL.sm rfl (sm_alloc (l := [.d (.p (.int .i64 0)), .d (.p (.int .i64 0))]) 8 inf95 rfl (by first | rfl | simp [S.clean, S.put, S.newObj, S.forget, V.has, V.hasL, junkIf, setL, V.cs, hasL_i, hasL_b, hasL_s, hasL_n, hasL_rep, hasL_flat, hasL_append, -List.map_set]) rfl rfl) ?_
  refine AL.st rfl (st_store_any inf95 rfl rfl rfl rfl rfl rfl rfl rfl (by first | decide | (simp; done) | (simp; omega)) rfl) ?_
  refine AL.nil ?_
  try simp only [thenS, S.put, S.newObj, setL, V.cs, List.length_cons, List.length_nil, List.take_succ_cons, List.take_zero, List.drop_succ_cons, List.drop_zero, List.drop_nil, List.nil_append, List.cons_append, List.append_nil, Nat.zero_add, Nat.reduceAdd, List.map_cons, List.map_nil, List.set_cons_zero, List.set_cons_succ]
  refine AW.seq ?_
  refine AW.seq ?_
  refine AW.region ?_
  (first | (refine AL.rd rfl rfl (rd_loads_ref Try.underlying95 rfl inf95 rfl rfl rfl rfl rfl rfl) ?_) | (refine AL.rd rfl rfl (rd_loads_ad Try.underlying95 rfl inf95 rfl rfl rfl rfl) ?_))
  (first | (refine AL.rd rfl rfl (rd_loads_ref Try.underlying95 rfl inf95 rfl rfl rfl rfl rfl rfl) ?_) | (refine AL.rd rfl rfl (rd_loads_ad Try.underlying95 rfl inf95 rfl rfl rfl rfl) ?_))
  (first | (refine AL.rp rfl rfl (cmp_eql_95T rfl rfl rfl rfl (by first | assumption | rfl)) ?_) | (refine AL.rp rfl rfl (cmp_eql_95F rfl rfl rfl rfl (by first | assumption | rfl)) ?_))
  refine AL.rp rfl rfl (rp_move rfl rfl) ?_
  (first | (refine AL.noV rfl rfl rfl rfl ?_) | (refine AL.noU rfl ⟨_, rfl, rfl⟩ rfl ?_) | (refine AL.rdy rfl rfl rfl (rd_loads_ref Try.underlying95 rfl inf95 rfl rfl rfl rfl rfl rfl) ?_) | (refine AL.rdy rfl rfl rfl (rd_loads_ad Try.underlying95 rfl inf95 rfl rfl rfl rfl) ?_))
  (first | (refine AL.noV rfl rfl rfl rfl ?_) | (refine AL.noU rfl ⟨_, rfl, rfl⟩ rfl ?_) | (refine AL.rdy rfl rfl rfl (rd_loads_ref Try.underlying95 rfl inf95 rfl rfl rfl rfl rfl rfl) ?_) | (refine AL.rdy rfl rfl rfl (rd_loads_ad Try.underlying95 rfl inf95 rfl rfl rfl rfl) ?_))
  (first | (refine AL.noV rfl rfl rfl rfl ?_) | (refine AL.noU rfl ⟨_, rfl, rfl⟩ rfl ?_) | (refine AL.rpy rfl rfl rfl (cmp_eql_95T rfl rfl rfl rfl (by first | assumption | rfl)) ?_) | (refine AL.rpy rfl rfl rfl (cmp_eql_95F rfl rfl rfl rfl (by first | assumption | rfl)) ?_))
  refine AL.rp rfl rfl (rp_pick rfl rfl rfl) ?_
  refine AL.nil ?_
  try simp only [thenS, S.put]
  refine AW.condF rfl ?_
  refine AW.skip ?_
  try simp only [thenS]
  refine AW.seq ?_
  refine AW.region ?_
  (first | (refine AL.rp rfl rfl (rp_field_ref Try.underlying95 rfl rfl rfl inf3 (by decide) rfl) ?_) | (refine AL.rp rfl rfl (rp_field_ad Try.underlying95 rfl rfl rfl inf3 (by decide) rfl) ?_))
  (first | (refine AL.rd rfl rfl (rd_load_ref Try.underlying3 rfl rfl rfl rfl rfl rfl) ?_) | (refine AL.rd rfl rfl (rd_load_ad Try.underlying3 rfl rfl rfl rfl) ?_) | (refine AL.rd rfl rfl (rd_load_map Try.underlying3 rfl rfl rfl rfl rfl rfl (by assumption)) ?_) | (refine AL.rd rfl rfl (rd_load_flat Try.underlying3 rfl rfl rfl rfl rfl rfl (fun _ => rfl) (by assumption) rfl) ?_))
  (first | (refine AL.rp rfl rfl (rp_field_ref Try.underlying95 rfl rfl rfl inf3 (by decide) rfl) ?_) | (refine AL.rp rfl rfl (rp_field_ad Try.underlying95 rfl rfl rfl inf3 (by decide) rfl) ?_))
  (first | (refine AL.rd rfl rfl (rd_load_ref Try.underlying3 rfl rfl rfl rfl rfl rfl) ?_) | (refine AL.rd rfl rfl (rd_load_ad Try.underlying3 rfl rfl rfl rfl) ?_) | (refine AL.rd rfl rfl (rd_load_map Try.underlying3 rfl rfl rfl rfl rfl rfl (by assumption)) ?_) | (refine AL.rd rfl rfl (rd_load_flat Try.underlying3 rfl rfl rfl rfl rfl rfl (fun _ => rfl) (by assumption) rfl) ?_))
  refine AL.rp rfl rfl (rp_add rfl rfl rfl (by first | omega | (dsimp only; omega))) ?_
  (first | (refine AL.rp rfl rfl (rp_field_ref Try.underlying95 rfl rfl rfl inf3 (by decide) rfl) ?_) | (refine AL.rp rfl rfl (rp_field_ad Try.underlying95 rfl rfl rfl inf3 (by decide) rfl) ?_))
  (first | (refine AL.rd rfl rfl (rd_load_ref Try.underlying3 rfl rfl rfl rfl rfl rfl) ?_) | (refine AL.rd rfl rfl (rd_load_ad Try.underlying3 rfl rfl rfl rfl) ?_) | (refine AL.rd rfl rfl (rd_load_map Try.underlying3 rfl rfl rfl rfl rfl rfl (by assumption)) ?_) | (refine AL.rd rfl rfl (rd_load_flat Try.underlying3 rfl rfl rfl rfl rfl rfl (fun _ => rfl) (by assumption) rfl) ?_))
  (first | (refine AL.rp rfl rfl (rp_field_ref Try.underlying95 rfl rfl rfl inf3 (by decide) rfl) ?_) | (refine AL.rp rfl rfl (rp_field_ad Try.underlying95 rfl rfl rfl inf3 (by decide) rfl) ?_))
  (first | (refine AL.rd rfl rfl (rd_load_ref Try.underlying3 rfl rfl rfl rfl rfl rfl) ?_) | (refine AL.rd rfl rfl (rd_load_ad Try.underlying3 rfl rfl rfl rfl) ?_) | (refine AL.rd rfl rfl (rd_load_map Try.underlying3 rfl rfl rfl rfl rfl rfl (by assumption)) ?_) | (refine AL.rd rfl rfl (rd_load_flat Try.underlying3 rfl rfl rfl rfl rfl rfl (fun _ => rfl) (by assumption) rfl) ?_))
  refine AL.rp rfl rfl (rp_add rfl rfl rfl (by first | omega | (dsimp only; omega))) ?_
  refine AL.rp rfl rfl (rp_build (vs := [(0, _), (1, _)]) (zs := [.d (.p (.int .i64 0)), .d (.p (.int .i64 0))]) pl95 inf95 rfl rfl rfl rfl) ?_
  refine AL.sm rfl (sm_alloc (l := [.d (.p (.int .i64 0)), .d (.p (.int .i64 0))]) 9 inf95 rfl (by first | rfl | simp [S.clean, S.put, S.newObj, S.forget, V.has, V.hasL, junkIf, setL, V.cs, hasL_i, hasL_b, hasL_s, hasL_n, hasL_rep, hasL_flat, hasL_append, -List.map_set]) rfl rfl) ?_
  refine AL.st rfl (st_store_any inf95 rfl rfl rfl rfl rfl rfl rfl rfl (by first | decide | (simp; done) | (simp; omega)) rfl) ?_
  refine AL.nil ?_
  try simp only [thenS, S.put, S.newObj, setL, V.cs, List.length_cons, List.length_nil, List.take_succ_cons, List.take_zero, List.drop_succ_cons, List.drop_zero, List.drop_nil, List.nil_append, List.cons_append, List.append_nil, Nat.zero_add, Nat.reduceAdd, List.map_cons, List.map_nil, List.set_cons_zero, List.set_cons_succ]
  refine AW.seq ?_
  refine AW.drawX (6) [(0, true), (1, true), (2, true), (3, true), (4, true), (5, true), (6, true), (7, true), (8, true), (9, false), (10, false)] (fun i => !([] : List Nat).contains i) 11 (by kernel_rfl) (by kernel_rfl) rfl (by kernel_rfl) ?_
  (first | (refine AE1.rx rfl rfl rfl (fun _ _ h => h) (rx_loads_ref Try.underlying95 rfl inf95 rfl rfl rfl rfl rfl rfl (by first | decide | omega)) ?_))
  (first | (refine AE1.rp rfl rfl rfl (fun _ _ h => h) (rp_field_ref Try.underlying95 rfl rfl rfl inf3 (by decide) rfl) ?_) | (refine AE1.rp rfl rfl rfl (fun _ _ h => h) (rp_field_ad Try.underlying95 rfl rfl rfl inf3 (by decide) rfl) ?_))
  (first | (refine AE1.rx rfl rfl rfl (fun _ _ h => h) (rx_load_ref Try.underlying3 rfl rfl rfl rfl rfl rfl (by first | decide | omega)) ?_) | (refine AE1.rx rfl rfl rfl (fun _ _ h => h) (rx_load_ad Try.underlying3 rfl rfl rfl rfl) ?_) | (refine AE1.rx rfl rfl rfl (fun _ _ h => h) (rx_load_fam (m := 0) Try.underlying3 rfl rfl rfl rfl rfl rfl (fun _ => rfl) rfl (by assumption) (by first | decide | omega)) ?_) | (refine AE1.rx rfl rfl rfl (fun _ _ h => h) (rx_load_fam (m := 1) Try.underlying3 rfl rfl rfl rfl rfl rfl (fun _ => rfl) rfl (by assumption) (by first | decide | omega)) ?_))
  (first | (refine AE1.rp rfl rfl rfl (fun _ _ h => h) (rp_leqT rfl rfl rfl (by first | assumption | omega | (dsimp only; omega))) ?_) | (refine AE1.rp rfl rfl rfl (fun _ _ h => h) (rp_leqF rfl rfl rfl (by first | assumption | omega | (dsimp only; omega))) ?_) | (refine AE1.rp rfl rfl rfl (fun _ _ h => h) (rp_leq rfl rfl rfl) ?_))
  refine AE1.rp rfl rfl rfl (fun _ _ h => h) (rp_move rfl rfl) ?_
  (first | (refine AE1.noV rfl rfl rfl rfl rfl (fun _ _ h => h) ?_) | (refine AE1.noU rfl rfl ⟨_, rfl, rfl⟩ rfl (fun _ _ h => h) ?_) | (refine AE1.rpy rfl rfl rfl rfl (fun _ _ h => h) (rp_field_ref Try.underlying95 rfl rfl rfl inf3 (by decide) rfl) ?_) | (refine AE1.rpy rfl rfl rfl rfl (fun _ _ h => h) (rp_field_ad Try.underlying95 rfl rfl rfl inf3 (by decide) rfl) ?_))
  (first | (refine AE1.noV rfl rfl rfl rfl rfl (fun _ _ h => h) ?_) | (refine AE1.noU rfl rfl ⟨_, rfl, rfl⟩ rfl (fun _ _ h => h) ?_) | (refine AE1.rxy rfl rfl rfl rfl (fun _ _ h => h) (rx_load_ref Try.underlying3 rfl rfl rfl rfl rfl rfl (by first | decide | omega)) ?_) | (refine AE1.noV rfl rfl rfl rfl rfl (fun _ _ h => h) ?_) | (refine AE1.noU rfl rfl ⟨_, rfl, rfl⟩ rfl (fun _ _ h => h) ?_) | (refine AE1.rxy rfl rfl rfl rfl (fun _ _ h => h) (rx_load_ad Try.underlying3 rfl rfl rfl rfl) ?_) | (refine AE1.noV rfl rfl rfl rfl rfl (fun _ _ h => h) ?_) | (refine AE1.noU rfl rfl ⟨_, rfl, rfl⟩ rfl (fun _ _ h => h) ?_) | (refine AE1.rxy rfl rfl rfl rfl (fun _ _ h => h) (rx_load_fam (m := 0) Try.underlying3 rfl rfl rfl rfl rfl rfl (fun _ => rfl) rfl (by assumption) (by first | decide | omega)) ?_) | (refine AE1.noV rfl rfl rfl rfl rfl (fun _ _ h => h) ?_) | (refine AE1.noU rfl rfl ⟨_, rfl, rfl⟩ rfl (fun _ _ h => h) ?_) | (refine AE1.rxy rfl rfl rfl rfl (fun _ _ h => h) (rx_load_fam (m := 1) Try.underlying3 rfl rfl rfl rfl rfl rfl (fun _ => rfl) rfl (by assumption) (by first | decide | omega)) ?_))
  (first | (refine AE1.noV rfl rfl rfl rfl rfl (fun _ _ h => h) ?_) | (refine AE1.noU rfl rfl ⟨_, rfl, rfl⟩ rfl (fun _ _ h => h) ?_) | (refine AE1.rpy rfl rfl rfl rfl (fun _ _ h => h) (rp_leqT rfl rfl rfl (by first | assumption | omega | (dsimp only; omega))) ?_) | (refine AE1.rpy rfl rfl rfl rfl (fun _ _ h => h) (rp_leqF rfl rfl rfl (by first | assumption | omega | (dsimp only; omega))) ?_) | (refine AE1.rpy rfl rfl rfl rfl (fun _ _ h => h) (rp_leq rfl rfl rfl) ?_))
  refine AE1.rp rfl rfl rfl (fun _ _ h => h) (rp_pick rfl rfl rfl) ?_
  refine AE1.go ?_
  refine AE2.stS rfl rfl (st_store_anyS inf95 rfl rfl rfl rfl rfl rfl rfl rfl (by first | decide | (simp; done) | (simp; omega)) rfl) rfl ?_
  refine AE2.rp1 rfl rfl rfl (rp_assign rfl rfl) ?_
  refine AE2.nil ?_
  try simp only [thenS, S.put, S.newObj, setL, V.cs, List.length_cons, List.length_nil, List.take_succ_cons, List.take_zero, List.drop_succ_cons, List.drop_zero, List.drop_nil, List.nil_append, List.cons_append, List.append_nil, Nat.zero_add, Nat.reduceAdd, List.map_cons, List.map_nil, List.set_cons_zero, List.set_cons_succ]
  refine AW.ret ?_
  exact ⟨[_, _], ⟨⟨6, 0, _, _, rfl, rfl, rfl, Try.underlying95, .inr ⟨rfl, _, _, _, _, inf95, rfl, rfl, rfl⟩⟩, rfl, trivial⟩, by simp [tupOf, h1], by simp [tupOf, V.pure, V.has, V.hasL]⟩
end Go.Proofs.Ytnpbdcjfealoeaa
