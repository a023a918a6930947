/- Rules: stores in place among reads, guarded calls walked where they stand, pointers that may be nil. -/
import Derived.Test.YthlcginebeapdaaAmN
namespace Go.Proofs.Ythlcginebeapdaa
open Go.RowKit
set_option linter.unusedSimpArgs false
set_option linter.unusedVariables false

section
variable {c : Cx} {s : S} {o : Oper} {Q : Exit → S → Prop} {L : List Oper} {need : Nat → Bool} {l : List (Nat × Bool)} {i r : Nat}

/-- A store in place: only the block of object r has turned. -/
def StepS (c : Cx) (o : Oper) (s : S) (r : Nat) (row' : Row) : Prop := ∀ g a w, Sim c g s a w → ∀ (K : Act → World → Prop) (Q : Exit → Act → World → Prop),
  (∀ a' w', Sim c g { s with H := (r, row') :: s.H } a' w' → (w'.heap.size = w.heap.size ∧ ∀ k, k ≠ (g r).1 → w'.heap[k]? = w.heap[k]?) → K a' w') → o.wp c.P a w K Q
theorem st_store_anyS {t : TypeId} {sz bt : Nat} {z : Value} {x y : Operand} {r k : Nat} {row : Row} {v : V} {l : List V} (hi : Inf c.P t sz bt z) (ho : o.op = .store t x y) (hd : o.dst = none) (hx : s.ev x = some (.ref r k)) (hy : s.ev y = some v) (hr : fnd s.H r = some row) (hn : row.nil = false)
    (hok : v.ok = true) (hl : v.cs.length = sz) (hfit : k + sz ≤ row.cells.length) (hset : setL row.cells k v.cs = l) : StepS c o s r { row with cells := l } ∧ row.nil = false ∧ fnd s.H r = some row := by
  refine ⟨?_, hn, hr⟩
  intro g a w hs K Q hK
  obtain ⟨cs, c1, c2, c3, c4⟩ := (hs.ev hy).cells hok
  obtain ⟨arr, h1, _, h2⟩ := hs.obj r row hr hn
  have hlen : row.cells.length ≤ arr.size := by
    rcases Nat.eq_zero_or_pos row.cells.length with h0 | h0
    · omega
    · obtain ⟨y, hy', _⟩ := h2 (row.cells.length - 1) row.cells[row.cells.length - 1] (List.getElem?_eq_getElem (by omega))
      have := (Array.getElem?_eq_some_iff.1 hy').1
      omega
  have hrun := run_storeCells_at c.P (g r).1 k row.ty cs 0 arr w h1 (by omega) c4
  have hx' : a.eval x = .pointer (some ⟨(g r).1, k, none⟩) := by
    have h := hs.ev hx
    generalize a.eval x = u at h
    cases h; rfl
  have hsz : (a.eval y).cells.size = sz := by rw [c1]; simp; omega
  unfold Oper.wp
  have hexec : (execOp a.eval o).run c.P w = .ok .skip (w.setRow (g r).1 (arr.toList.take (k + 0) ++ cs ++ arr.toList.drop (k + 0 + cs.length)).toArray) := by
    simp only [execOp, ho, hx', Instr.storeAt, Instr.sureAddr, storeVar, Sem.run_bind, Sem.run_pure, Result.andThen_ok, run_sizeOf hi, hsz]
    simp [c1, hrun]
  rw [hexec]
  simp only [Oper.upon, hd, Act.put]
  simp only [Nat.add_zero]
  refine hK a _ (Sim.setRow hs (row' := { row with cells := l }) hr hn rfl hn rfl (setRow_heap _ _ _ _ _ _ h1) (fun b hb => setRow_other _ _ _ _ hb) (by simp) rfl rfl rfl ?_ ?_) ⟨by simp, fun b hb => setRow_other _ _ _ _ hb⟩
  · intro arr0 ty h0
    rw [h1] at h0
    simp only [Option.some.injEq, Obj.cells.injEq, and_true] at h0
    obtain ⟨rfl, _⟩ := h0
    simp; omega
  · intro j u hu
    subst hset
    simp only at hu
    rw [setL_get (by omega)] at hu
    have hget : ((arr.toList.take k ++ cs ++ arr.toList.drop (k + cs.length)).toArray)[j]? = if k ≤ j ∧ j < k + cs.length then cs[j - k]? else arr[j]? := by
      simp only [List.getElem?_toArray]
      by_cases e1 : j < k
      · rw [if_neg (by omega), List.append_assoc, List.getElem?_append_left (by simp; omega), List.getElem?_take_of_lt e1]; simp
      · by_cases e2 : j < k + cs.length
        · rw [if_pos (by omega), List.append_assoc, List.getElem?_append_right (by simp; omega), List.getElem?_append_left (by simp; omega)]
          congr 1
          simp; omega
        · rw [if_neg (by omega), List.append_assoc, List.getElem?_append_right (by simp; omega), List.getElem?_append_right (by simp; omega), List.getElem?_drop]
          simp only [Array.getElem?_toList]
          congr 1
          simp; omega
    rw [hget]
    by_cases hj : k ≤ j ∧ j < k + v.cs.length
    · rw [if_pos hj] at hu
      rw [if_pos (by omega)]
      have hjl : j - k < cs.length := by omega
      exact ⟨cs[j - k], List.getElem?_eq_getElem hjl, c3 _ u _ hu (List.getElem?_eq_getElem hjl)⟩
    · rw [if_neg hj] at hu
      rw [if_neg (by omega)]
      exact h2 j u hu
theorem st_storeS {t : TypeId} {bt : Nat} {z : Value} {x y : Operand} {r k : Nat} {row : Row} {v : V} {l : List V} (hi : Inf c.P t 1 bt z) (ho : o.op = .store t x y) (hd : o.dst = none) (hx : s.ev x = some (.ref r k)) (hy : s.ev y = some v) (hr : fnd s.H r = some row) (hn : row.nil = false)
    (hok : v.one = true) (hfit : k < row.cells.length) (hset : row.cells.set k v = l) : StepS c o s r { row with cells := l } ∧ row.nil = false ∧ fnd s.H r = some row := by
  have hcs : v.cs = [v] := by cases v <;> first | rfl | (simp [V.one] at hok)
  refine st_store_anyS hi ho hd hx hy hr hn ?_ (by rw [hcs]; rfl) (by omega) ?_
  · cases v <;> first | exact hok | (simp [V.one] at hok)
  · rw [← hset, hcs]
    apply List.ext_getElem?
    intro j
    rw [setL_get (by simp; omega), List.getElem?_set]
    by_cases e : k = j
    · subst e; simp [hfit]
    · rw [if_neg (by simp; omega), if_neg e]
theorem AE2.stS {row row' : Row} (hi : L[i]? = some o) (hg : o.guard = none) (h : StepS c o s r row' ∧ row.nil = false ∧ fnd s.H r = some row) (hn' : row'.nil = false) (hN : AE2 c L.toArray Q need r l { s with H := (r, row') :: s.H }) : AE2 c L.toArray Q need r ((i, false) :: l) s := fun W e g a w hs he hb hl =>
  wpOp_of (by simpa using hi) hg (h.1 g a w hs _ _ fun a' w' h2 h3 => by
    have hsz := hb.1
    have hne : ∀ k, ¬ e k → k ≠ (g r).1 := fun k hk hh => by subst hh; exact hk (he.own row h.2.2 h.2.1)
    have hbx : BX e W.heap.size W w' := ⟨by rw [h3.1]; exact hb.1, fun k hk hn => (h3.2 k (hne k hn)).trans (hb.2 k hk hn)⟩
    refine ⟨fun _ => hbx, hN W e g a' w' h2 ⟨fun k row2 hk h6 h7 => ?_, fun k hk hkl => ?_, fun row2 h6 h7 => he.own row h.2.2 h.2.1⟩ hbx hl⟩
    · simp only [fnd] at h6
      rw [if_neg (by simpa using Ne.symm hk)] at h6
      exact he.obj k row2 hk h6 h7
    · refine he.quiet k ⟨hk.1, fun r2 row2 h10 h11 h12 => ?_⟩ (by rw [← h3.1]; exact hkl)
      by_cases hr2 : r2 = r
      · subst hr2
        exact hk.2 r2 row' (by simp [fnd]) hn' h12
      · exact hk.2 r2 row2 (by simp only [fnd]; rw [if_neg (by simpa using Ne.symm hr2)]; exact h10) h11 h12)
theorem AE2.rp1 {v : V} (hi : L[i]? = some o) (hg : o.guard = none) (hd : dok s o = true) (h : RP c o s v) (hN : AE2 c L.toArray Q need r l (s.put o.dst v)) : AE2 c L.toArray Q need r ((i, false) :: l) s := fun W e g a w hs he hb hl =>
  wpOp_of (by simpa using hi) hg (by
    obtain ⟨x, h1, h2⟩ := h g a w hs
    unfold Oper.wp
    rw [h2 w]
    exact ⟨fun _ => hb, hN W e g _ w (hs.put o.dst (dok_spec hd) h1) he.put hb hl⟩)
theorem AE2.nil (h : Q .normal s) : AE2 c L.toArray Q need r [] s := fun W e g a w hs _ _ _ => ⟨g, s, h, hs⟩

theorem AL.inliney {ops : Array Oper} {rest : List Oper} {j : Nat} {b : Bool} (l : List Nat) {ts : List V} {fx : Operand} {xs : Array Operand} {tys : Array TypeId} {f : FuncId} {caps : List V} {fn : Func} {code : Code} {n : Nat} {rs : List ResultVar} {ars : List V} (hg : o.guard = some (j, b)) (hy : yld ops s j = some b) (hts : l.map (fun i => fnd s.T i) = ts.map some) (hf : Is c.P f fn code n rs)
    (ho : o.op = .call { callee := .value fx, args := xs, argTypes := tys }) (hfx : s.ev fx = some (.fn f caps)) (hargs : xs.toList.map s.ev = ars.map some) (hn : ars.length + caps.length ≤ n) (hd : dok s o = true)
    (h : ∀ kx, AW ⟨c.P, c.w0, c.out, kx, []⟩ code (QI c.P rs s.n l o.dst (AL c ops rest Q)) ⟨n, enum 0 (ars ++ caps), s.H, ts ++ s.K⟩) : AL c ops (o :: rest) Q s :=
  AL.yes hg hy (st_inline l hts hf ho hfx hargs hn hd h)

/-- The guard's own operation was passed over: so is this one. -/
def und (ops : Array Oper) (s : S) (j : Nat) : Prop := ∃ d, (ops[j]?).bind (·.dst) = some d ∧ fnd s.T d = some (.d (.p undef))
theorem und_spec {ops : Array Oper} {j : Nat} {g : Nat → Nat × Nat} {a : Act} {w : World} (h : und ops s j) (hs : Sim c g s a w) : yielded ops a.tmps j = none := by
  obtain ⟨d, h1, h2⟩ := h
  obtain ⟨x, h3, h4⟩ := hs.tmp d _ h2
  have := VRep.p_eq h4
  subst this
  simp [yielded, h1, h3, undef]
theorem AL.noV {ops : Array Oper} {rest : List Oper} {j : Nat} {b b' : Bool} (hg : o.guard = some (j, b)) (hy : yld ops s j = some b') (hb : (b' == b) = false) (hd : dok s o = true) (h : AL c ops rest Q (s.put o.dst (.d (.p undef)))) : AL c ops (o :: rest) Q s := fun g a w hs =>
  wpList_step fun K hK => by
    have hw : ¬ Region.wanted o (yielded ops a.tmps) = true := by
      simp only [Region.wanted, hg, yld_spec hy hs]
      simpa using hb
    rw [if_neg hw]
    exact hK _ _ (h g _ w (hs.put o.dst (dok_spec hd) (.d _ _ (.p _))))
theorem AL.noU {ops : Array Oper} {rest : List Oper} {j : Nat} {b : Bool} (hg : o.guard = some (j, b)) (hy : und ops s j) (hd : dok s o = true) (h : AL c ops rest Q (s.put o.dst (.d (.p undef)))) : AL c ops (o :: rest) Q s := fun g a w hs =>
  wpList_step fun K hK => by
    have hw : ¬ Region.wanted o (yielded ops a.tmps) = true := by
      simp only [Region.wanted, hg, und_spec hy hs]
      simp
    rw [if_neg hw]
    exact hK _ _ (h g _ w (hs.put o.dst (dok_spec hd) (.d _ _ (.p _))))
theorem AD1.noV {j : Nat} {b b' : Bool} (hi : L[i]? = some o) (hg : o.guard = some (j, b)) (hy : yld L.toArray s j = some b') (hb : (b' == b) = false) (hd : dok s o = true) (hp : noP Q) (hN : AD1 c L.toArray Q need l (s.put o.dst (.d (.p undef)))) : AD1 c L.toArray Q need ((i, true) :: l) s := fun g a w hs =>
  ⟨o, undef, by simpa using hi, .inr ⟨by simp only [Region.wanted, hg, yld_spec hy hs]; simpa using hb, rfl⟩, Below.refl _ _, QQ_noP hp _ _, hN g _ w (hs.put o.dst (dok_spec hd) (.d _ _ (.p _)))⟩
theorem AD1.noU {j : Nat} {b : Bool} (hi : L[i]? = some o) (hg : o.guard = some (j, b)) (hy : und L.toArray s j) (hd : dok s o = true) (hp : noP Q) (hN : AD1 c L.toArray Q need l (s.put o.dst (.d (.p undef)))) : AD1 c L.toArray Q need ((i, true) :: l) s := fun g a w hs =>
  ⟨o, undef, by simpa using hi, .inr ⟨by simp only [Region.wanted, hg, und_spec hy hs]; simp, rfl⟩, Below.refl _ _, QQ_noP hp _ _, hN g _ w (hs.put o.dst (dok_spec hd) (.d _ _ (.p _)))⟩

theorem run_equal_ptr {P : Program} {t e : TypeId} (hu : P.underlying t = some (.pointer e)) (a : Option Addr) (w : World) : (Op.equal t (.pointer a) (.pointer none)).run P w = .ok a.isNone w := by
  have h : ∀ d : Nat, (Op.equalIn (d + 1) t (.pointer a) (.pointer none)).run P w = .ok a.isNone w := fun d => by
    cases a <;> simp [Op.equalIn, run_underlying hu]
  exact h 9999
theorem rp_ptr {t t' e : TypeId} {op : BinOp} {x y : Operand} {v : V} {b : Bool} (hop : op = .eql ∨ op = .neq) (hu : c.P.underlying t = some (.pointer e)) (ho : o.op = .binOp op t x y t') (hx : s.ev x = some v) (hy : s.ev y = some (.d (.p (.pointer none)))) (hv : ∀ w q g z, VRep w q g v z → ∃ a, z = .pointer a ∧ a.isNone = b) : RP c o s (.b (if op = .eql then b else !b)) := fun g a w hs => by
  obtain ⟨p, hp1, hp2⟩ := hv _ _ _ _ (hs.ev hx)
  refine ⟨.bool (if op = .eql then b else !b), .d _ _ (.p _), fun w' => ?_⟩
  have h := run_equal_ptr hu p w'
  rcases hop with rfl | rfl <;> simp [execOp, ho, hp1, VRep.p_eq (hs.ev hy), eqGuard, binOp, h, hp2]
theorem rp_neqp_ad {t t' e : TypeId} {x y : Operand} {row : List D} (hu : c.P.underlying t = some (.pointer e)) (ho : o.op = .binOp .neq t x y t') (hx : s.ev x = some (.ad row)) (hy : s.ev y = some (.d (.p (.pointer none)))) : RP c o s (.b true) :=
  rp_ptr (b := false) (.inr rfl) hu ho hx hy fun w q g z hz => by cases hz; exact ⟨_, rfl, rfl⟩
theorem rp_neqp_nil {t t' e : TypeId} {x y : Operand} (hu : c.P.underlying t = some (.pointer e)) (ho : o.op = .binOp .neq t x y t') (hx : s.ev x = some (.d (.p (.pointer none)))) (hy : s.ev y = some (.d (.p (.pointer none)))) : RP c o s (.b false) :=
  rp_ptr (b := true) (.inr rfl) hu ho hx hy fun w q g z hz => by rw [VRep.p_eq hz]; exact ⟨_, rfl, rfl⟩
end
end Go.Proofs.Ythlcginebeapdaa
