/- A method called through an interface value. -/
import Derived.Test.YthlcginebeapdaaAmLaw
import Derived.Test.YthlcginebeapdaaAmH
namespace Go.Proofs.Ythlcginebeapdaa
open Go.RowKit
set_option linter.unusedSimpArgs false
set_option linter.unusedVariables false
set_option maxRecDepth 100000

section
variable {c : Cx} {s : S} {o : Oper}
theorem rp_mkI {t : TypeId} {x : Operand} {l : List V} {v : Value} (ho : o.op = .makeInterface t x) (hx : s.ev x = some (.agg l)) (hv : ∀ w q g y, VRep w q g (.agg l) y → y = v) (hr : ∀ w, (Instr.makeInterface t v).run c.P w = .ok (.iface t v) w) : RP c o s (.d (.p (.iface t v))) := fun g a w hs =>
  ⟨.iface t v, .d _ _ (.p _), fun w' => by
    simp only [execOp, ho, hv _ _ _ _ (hs.ev hx), Sem.run_bind, hr w', Result.andThen_ok]
    rfl⟩
theorem agg0_eq {w : World} {q : Nat → Prop} {g : Nat → Nat × Nat} {y : Value} (h : VRep w q g (.agg []) y) : y = .agg #[] := by
  cases h with | agg _ cs hl _ =>
  match cs, hl with
  | [], _ => rfl
theorem exec_invoke {ρ : Operand → Value} {rx : Operand} {name : String} {xs : Array Operand} {ts : Array TypeId} {f : FuncId} {fn : Func} {code : Code} {n : Nat} {rs : List ResultVar} {t : TypeId} {v v' : Value} {w : World} (hf : Is c.P f fn code n rs) (ho : o.op = .call { callee := .invoke rx name, args := xs, argTypes := ts })
    (hfx : ρ rx = .iface t v) (hm : ∀ w, (method (c.P.types.size + Made.depth) t v name).run c.P w = .ok (f, v') w) : (execOp ρ o).run c.P w = .ok (.enter f (v' :: xs.toList.map ρ).toArray) w := by
  have hb : fn.body.isNone = false := by rw [hf.body]; rfl
  have hn := hf.name
  simp only [execOp, ho, resolve, hfx, Sem.run_bind, Sem.run_pure, Result.andThen_ok, invoke]
  have h0 : (#[Value.iface t v] ++ xs.map ρ)[0]? = some (.iface t v) := by simp [Array.getElem?_append_left]
  rw [h0]
  simp only [callMethod, Sem.run_bind, run_program, Result.andThen_ok, hm w]
  simp only [callFunc, Sem.run_bind, run_program, Result.andThen_ok, hf.func]
  simp at hn
  have hb' : ¬ fn.body = none := by rw [hf.body]; simp
  simp [hn, hb', hb, ← Array.toList_map]
  rw [List.take_of_length_le (by simp)]
/-- A method called through an interface value. -/
theorem sm_invoke {rx : Operand} {name : String} {xs : Array Operand} {ts : Array TypeId} {f : FuncId} {fn : Func} {code : Code} {n : Nat} {rs : List ResultVar} {t : TypeId} {v v' : Value} {rv : V} {args : List V} {post : V → Prop} (hfn : Fn c.P f (rv :: args) post) (hf : Is c.P f fn code n rs) (ho : o.op = .call { callee := .invoke rx name, args := xs, argTypes := ts })
    (hfx : s.ev rx = some (.d (.p (.iface t v)))) (hm : ∀ w, (method (c.P.types.size + Made.depth) t v name).run c.P w = .ok (f, v') w) (hv' : ∀ w q g, VRep w q g rv v') (hargs : xs.toList.map s.ev = args.map some) (hd : dok s o = true) : StepM c o s (fun s' => ∃ v, post v ∧ v.pure ∧ s' = s.put o.dst v) := by
  intro g a w hs K Q hK
  obtain ⟨hal, har⟩ := args_eval hs hargs
  have hx : VReps w (fun b => ¬ ¬ qt c s.H g b) g (rv :: args) (v' :: xs.toList.map a.eval) := by
    refine ⟨by simp at hal ⊢; omega, fun j u y hu hy => ?_⟩
    have hm : ∀ {v x}, VRep w (qt c s.H g) g v x → VRep w (fun b => ¬ ¬ qt c s.H g b) g v x := fun hv => hv.mono Cells.rfl (fun b hb _ => not_not_intro hb) (fun _ _ => rfl)
    match j, hu, hy with
    | 0, hu, hy =>
      simp only [List.getElem?_cons_zero, Option.some.injEq] at hu hy
      subst hu hy
      exact hv' _ _ _
    | j + 1, hu, hy =>
      simp only [List.getElem?_cons_succ] at hu hy
      exact hm (har j _ y hu hy)
  unfold Oper.wp
  rw [exec_invoke hf ho (VRep.p_eq (hs.ev hfx)) hm]
  simp only [Oper.upon]
  refine (hfn w (fun b => ¬ qt c s.H g b) g _ ?_ hx).mono ?_
  · intro b hb
    rcases Classical.em (c.out b) with h | h
    · exact Nat.lt_of_lt_of_le (hs.low b h) hs.below.size
    · rcases Classical.em (∃ r row, fnd s.H r = some row ∧ row.nil = false ∧ (g r).1 = b) with ⟨r, row, h1, h2, rfl⟩ | h'
      · obtain ⟨arr, h3, _⟩ := hs.obj r row h1 h2
        exact (Array.getElem?_eq_some_iff.1 h3).1
      · exact absurd ⟨h, fun r row h1 h2 h3 => h' ⟨r, row, h1, h2, h3⟩⟩ hb
  · rintro e w' ⟨v, x, rfl, h1, h2, h3, h4⟩
    refine hK g _ _ _ ⟨v, h1, h2, rfl⟩ ((hs.move h4).put o.dst (dok_spec hd) ?_) h4
    exact h3.mono Cells.rfl (fun b hb _ => Classical.not_not.1 hb) (fun r _ => rfl)
variable {Q : Exit → S → Prop} {L : List Oper} {need : Nat → Bool} {l : List (Nat × Bool)} {i r : Nat}
theorem AE1.rxy {v : V} {j : Nat} {b : Bool} (hi : L[i]? = some o) (hg : o.guard = some (j, b)) (hy : yld L.toArray s j = some b) (hd : dok s o = true) (hp : noP Q) (h : RX c o s r v) (hN : AE1 c L.toArray Q need r l (s.put o.dst v)) : AE1 c L.toArray Q need r ((i, true) :: l) s := fun e g a w hs he hl => by
  obtain ⟨x, h1, h2⟩ := h e g a w hs he
  exact ⟨o, x, by simpa using hi, .inl ⟨by simp [Region.wanted, hg, yld_spec hy hs], h2⟩, BX.refl _, QQ_noP hp _ _, hN e g _ w (hs.put o.dst (dok_spec hd) h1) he.put hl⟩
theorem AE1.rpy {v : V} {j : Nat} {b : Bool} (hi : L[i]? = some o) (hg : o.guard = some (j, b)) (hy : yld L.toArray s j = some b) (hd : dok s o = true) (hp : noP Q) (h : RP c o s v) (hN : AE1 c L.toArray Q need r l (s.put o.dst v)) : AE1 c L.toArray Q need r ((i, true) :: l) s := AE1.rxy hi hg hy hd hp h.rx hN
theorem AE1.no {j : Nat} {b b' : Bool} (hi : L[i]? = some o) (hg : o.guard = some (j, b)) (hy : yld L.toArray s j = some b') (hb : (b' == b) = false) (hd : dok s o = true) (hp : noP Q) (hN : AE1 c L.toArray Q need r l (s.put o.dst .junk)) : AE1 c L.toArray Q need r ((i, true) :: l) s := fun e g a w hs he hl =>
  ⟨o, undef, by simpa using hi, .inr ⟨by simp only [Region.wanted, hg, yld_spec hy hs]; simpa using hb, rfl⟩, BX.refl _, QQ_noP hp _ _, hN e g _ w (hs.put o.dst (dok_spec hd) (.junk _)) he.put hl⟩
theorem AE1.noV {j : Nat} {b b' : Bool} (hi : L[i]? = some o) (hg : o.guard = some (j, b)) (hy : yld L.toArray s j = some b') (hb : (b' == b) = false) (hd : dok s o = true) (hp : noP Q) (hN : AE1 c L.toArray Q need r l (s.put o.dst (.d (.p undef)))) : AE1 c L.toArray Q need r ((i, true) :: l) s := fun e g a w hs he hl =>
  ⟨o, undef, by simpa using hi, .inr ⟨by simp only [Region.wanted, hg, yld_spec hy hs]; simpa using hb, rfl⟩, BX.refl _, QQ_noP hp _ _, hN e g _ w (hs.put o.dst (dok_spec hd) (.d _ _ (.p _))) he.put hl⟩
theorem AE1.noU {j : Nat} {b : Bool} (hi : L[i]? = some o) (hg : o.guard = some (j, b)) (hy : und L.toArray s j) (hd : dok s o = true) (hp : noP Q) (hN : AE1 c L.toArray Q need r l (s.put o.dst (.d (.p undef)))) : AE1 c L.toArray Q need r ((i, true) :: l) s := fun e g a w hs he hl =>
  ⟨o, undef, by simpa using hi, .inr ⟨by simp only [Region.wanted, hg, und_spec hy hs]; simp, rfl⟩, BX.refl _, QQ_noP hp _ _, hN e g _ w (hs.put o.dst (dok_spec hd) (.d _ _ (.p _))) he.put hl⟩
end
end Go.Proofs.Ythlcginebeapdaa
