/- Part 4 of what the law SameSames rests on. -/
import Derived.Lib.AppendStr
import Derived.Lib.LaidTab
import Derived.Test.YthiknkcigcglkaaGreatDoorPkSS3
namespace Go.Proofs.YthiknkcigcglkaaGreatDoor
open Go.RowKit
open List (append_nil length_append map_cons map_nil map_toArray mem_map take_of_length_le)
open Nat (lt_of_lt_of_le)
open Option (map_some)
set_option linter.unusedSimpArgs false
set_option linter.unusedVariables false
set_option maxRecDepth 100000
set_option maxHeartbeats 8000000
variable {P : Program} {Pre : World → Prop} {f : FuncId} {args : List V} {fn : Func} {code : Code} {rs : List ResultVar} {post : V → Prop}
theorem qM1 (w : World) (t u ty e : TypeId) (i : TypeInfo) (ht : P.underlying t = some (.slice e)) (hu : P.underlying u = some .string) (hi : P.info? e = some i) (hz : i.zero = some (.int .u8 0)) (qe4 : i.size = 1) (hby : i.bytes = 1)
    (v : Value) (n : Nat) (xs : List Value) (bC : w.ownsRow 0 e 1 v n xs) (s : ByteArray) (hm : 0 < s.size) (hb : n + s.size ≤ 140737488355328) :
    ∃ v' w', (Builtin.append_ #[t, u] ty #[v, .string s]).run P w = .ok v' w' ∧ w'.ownsRow 0 e 1 v' (n + s.size) (xs ++ Lib.strCells s) ∧ w.grownBy w' v.ownBlock ∧ (v'.ownBlock = v.ownBlock ∨ v'.ownBlock = some w.heap.size) := by
  obtain ⟨v', w', hr, h1, h2, _⟩ := Lib.run_append_own_string (P := P) w 0 t u ty e i ht hu hi hz qe4 hby v n xs bC s (by simp only [maxLen]; omega) hb (Nat.zero_le _); refine ⟨v', w', hr, h1, h2, ?_⟩; have hxl : xs.length = n := by simpa using bC.1
  have key : ∀ {v1 : Value} {w1 : World}, (Builtin.append_ #[t, u] ty #[v, .string s]).run P w = .ok v1 w1 → v' = v1 := fun h => by
    rw [hr] at h
    cases h
    rfl
  have jW7 := bC
  rcases jW7.2 with ⟨rfl, hn0⟩ | ⟨g, cap, cur, rfl, hbg, hg, hnc, hcm, hcs, qo8⟩
  · right
    have := key (run_append_nil_string (P := P) w t u ty e i (.int .u8 0) ht hu hi hz s hm (by omega) (by rw [hby]; omega)); subst this; rfl
  · by_cases qw9 : n + s.size ≤ cap
    · left
      have ka7 : cur.size = cap := by simpa using hcs
      have := key (Lib.run_append_room_string (P := P) w t u ty e i ht hu hi qe4 g n cap cur hg s qw9 (by omega)); subst this; rfl
    · right
      have holds : ∀ j u, xs[j]? = some u → w.cell? ((⟨g, 0, none⟩ : Addr).add j) = some u := bC.cells (g := g) rfl; have := key (Lib.run_append_grow_string (P := P) w t u ty e i (.int .u8 0) ht hu hi hz ⟨g, 0, none⟩ n cap xs (by rw [qe4]; simpa using hxl) holds s (by omega) (by omega) (by rw [hby]; exact growslice_fits (by omega) (by omega))); subst this; rfl
section
variable {c : Cx} {s : S} {o : Oper}
def yK (b : ByteArray) : List V := b.data.toList.map fun x => V.d (.p (.int .u8 (x.toNat : Int)))
theorem qe7 (b : ByteArray) : (yK b).length = b.size := by rw [yK, List.length_map, Array.length_toList]; rfl
theorem qP5 (a b : ByteArray) : yK (a ++ b) = yK a ++ yK b := by
  simp [yK, ByteArray.data_append]
theorem bJ (r : Nat) (b : ByteArray) : V.hasL r (yK b) = false := by
  rw [V.hasL_false]; intro v hv; simp only [yK, mem_map] at hv; obtain ⟨_, _, rfl⟩ := hv; rfl
theorem qM2 {t u e : TypeId} {x y : Operand} {r n : Nat} {z : Value} {f : Bool} {row : Row} {l1 : List V} {b : ByteArray} (hu : c.P.underlying t = some (.slice e)) (hus : c.P.underlying u = some .string) (hi : Inf c.P e 1 1 (.int .u8 0))
    (ho : o.op = .call { callee := .builtin .append, args := #[x, y], argTypes := #[t, u] }) (hx : s.ev x = some (.own r 1 n f)) (hr : fnd s.H r = some row) (hf : row.nil = f) (hrz : row.sz = 1) (hty : row.ty = e)
    (hl : row.cells.take n = l1) (hl1 : l1.length = n) (hc1 : V.hasL r l1 = false) (hy : s.ev y = some (.s b)) (hm : 0 < b.size) (hb : n + b.size ≤ 140737488355328) (hd : dok s o = true) :
    vm c o s (fun s' => s' = S.put ⟨s.n, (s.forget r).T, (r, ⟨e, l1 ++ yK b, false, 1⟩) :: (s.forget r).H, (s.forget r).K⟩ o.dst (.own r 1 (n + b.size) false)) := by
  intro g a w hs K Q hK; obtain ⟨i, hi1, hi2, hi3, hi4⟩ := hi.out; have hyv := VRep.p_eq (hs.ev hy)
  have bC : ∃ xs : List Value, w.ownsRow 0 e 1 (a.eval x) n xs ∧ (∀ (j : Nat) (u : V), l1[j]? = some u → ∃ y, xs[j]? = some y ∧ VRep w (qt c s.H g) g u y) ∧ ∀ b, (a.eval x).ownBlock = some b → row.nil = false ∧ b = (g r).1 := by
    have h := hs.ev hx; generalize a.eval x = u at h
    cases h with
    | own _ _ _ hn vK =>
      obtain ⟨arr, h1, h2, h3⟩ := hs.obj r row hr hf; have ja9 : arr.size = (g r).2 * 1 := by rw [h2 (by omega), hrz]
      refine ⟨arr.toList.take (n * 1), ⟨by simp; omega, .inr ⟨(g r).1, (g r).2, arr, rfl, Nat.zero_le _, by rw [← hty]; exact h1, hn, vK, ja9, rfl⟩⟩, fun j u hu => ?_, fun b hb => ⟨hf, by simpa [Value.ownBlock] using hb.symm⟩⟩
      have vJ : j < n := by rw [← hl1]; exact (List.getElem?_eq_some_iff.1 hu).1
      rw [← hl, List.getElem?_take_of_lt vJ] at hu; obtain ⟨y, h4, h5⟩ := h3 j u hu; exact ⟨y, by rw [List.getElem?_take_of_lt (by omega)]; simpa using h4, h5⟩
    | ownNil =>
      refine ⟨[], ⟨by simp, .inl ⟨rfl, rfl⟩⟩, fun j u hu => ?_, fun b hb => by simp [Value.ownBlock] at hb⟩
      have : l1 = [] := List.eq_nil_of_length_eq_zero hl1; simp [this] at hu
  obtain ⟨xs, o1, o2, o3⟩ := bC; obtain ⟨v', w', zv, r1, r2, r4⟩ := qM1 (P := c.P) w t u o.type e i hu hus hi1 hi4 hi2 hi3 _ n xs o1 b hm hb; obtain ⟨q1, q2⟩ := r1
  rcases q2 with ⟨_, h0⟩ | ⟨G, cap, cur, rfl, _, q3, q4, q5, q6, q7⟩
  · omega
  · have hG : row.nil = false ∧ G = (g r).1 ∨ G = w.heap.size := by
      rcases r4 with r4 | r4
      · exact .inl (o3 G (by rw [← r4]; rfl))
      · right; simpa [Value.ownBlock] using r4
    have hxl : xs.length = n := by simpa using o1.1
    have q57 := Sim.grown hs (row' := ⟨e, l1 ++ yK b, false, 1⟩) (cap := cap) hr hG rfl q3 (fun b hb zT => r2.block b hb (fun e' => (zT (o3 b e'.symm).1) (o3 b e'.symm).2)) r2.size r2.os r2.tape r2.output (by
        rw [zA, hc1, bJ]; rfl) (fun _ => q6) (by
      intro j v hv; simp only at hv; have jo7 : ∀ k, k < n + b.size → cur[k]? = (xs ++ Lib.strCells b)[k]? := by grind
      have vJ : j < n + b.size := by
        have := (List.getElem?_eq_some_iff.1 hv).1; simp only [length_append, qe7, hl1] at this; exact this
      rw [jo7 j vJ]
      by_cases hj : j < n
      · rw [List.getElem?_append_left (by omega)] at hv ⊢
        exact o2 j v hv
      · rw [List.getElem?_append_right (by omega)] at hv ⊢
        rw [hl1] at hv; rw [hxl]; simp only [yK, Lib.strCells, List.getElem?_map] at hv ⊢
        cases hc : b.data.toList[j - n]? with
        | none => rw [hc] at hv; cases hv
        | some q =>
          rw [hc] at hv; simp only [map_some, Option.some.injEq] at hv; subst hv
          exact ⟨_, rfl, .d _ _ (.p _)⟩)
    unfold Oper.wp
    have xP : (execOp a.eval o).run c.P w = .ok (.value (.slice (some ⟨G, 0, none⟩) (n + b.size) cap)) w' := by
      simp only [execOp, ho, resolve, invoke, builtin, Sem.run_bind, Sem.run_pure, Result.andThen_ok, map_toArray, map_cons, map_nil, hyv, zv]
    rw [xP]; refine hK _ _ _ _ rfl (q57.put o.dst ?_ ?_)
    · exact zJ (s := s) hd
    · have := VRep.own (w := w') (q := qt c ((r, (⟨e, l1 ++ yK b, false, 1⟩ : Row)) :: (s.forget r).H) (fun k => if k = r then (G, cap) else g k)) (g := fun k => if k = r then (G, cap) else g k) r 1 (n + b.size) (by simpa using q4) (by simpa using q5)
      simpa using this
theorem qB6 {t u e : TypeId} {x y : Operand} {r n : Nat} {f : Bool} {row : Row} {l1 : List V} {b : ByteArray} (hu : c.P.underlying t = some (.slice e)) (hus : c.P.underlying u = some .string) (hi : Inf c.P e 1 1 (.int .u8 0))
    (ho : o.op = .call { callee := .builtin .append, args := #[x, y], argTypes := #[t, u] }) (hx : s.ev x = some (.own r 1 n f)) (hr : fnd s.H r = some row) (hf : row.nil = f) (hrz : row.sz = 1) (hty : row.ty = e)
    (hl : row.cells = l1) (hl1 : l1.length = n) (hc1 : V.hasL r l1 = false) (hy : s.ev y = some (.s b)) (hm : 0 < b.size) (hb : n + b.size ≤ 140737488355328) (hd : dok s o = true) :
    vm c o s (fun s' => s' = S.put ⟨s.n, (s.forget r).T, (r, ⟨e, l1 ++ yK b, false, 1⟩) :: (s.forget r).H, (s.forget r).K⟩ o.dst (.own r 1 (n + b.size) false)) :=
  qM2 (z := .int .u8 0) hu hus hi ho hx hr hf hrz hty (by rw [hl, take_of_length_le (by omega)]) hl1 hc1 hy hm hb hd
end
def FnP (Pre : World → Prop) (P : Program) (f : FuncId) (args : List V) (post : V → Prop) : Prop := ∀ (w : World) (out : Nat → Prop) (g : Nat → Nat × Nat) (xs : List Value), Pre w → (∀ b, out b → b < w.heap.size) → y9 w (fun b => ¬ out b) g args xs →
  Calls P f xs.toArray w fun e w' => ∃ v x, e = .returned x ∧ post v ∧ v.pure ∧ VRep w' (fun b => ¬ out b) g v x ∧ Below w.heap.size w w'
def jp0 (Pre : World → Prop) : Prop := ∀ w w' : World, Below w.heap.size w w' → Pre w → Pre w'
theorem FnP.ofCalls {xs : List Value} {y : Value} {v : V} (h : ∀ w, Pre w → Calls P f xs.toArray w fun e w' => e = .returned y ∧ Below w.heap.size w w') (ha : ∀ w q g zs, y9 w q g args zs → zs = xs) (hv : ∀ w q g, VRep w q g v y) (hp : v.pure) : FnP Pre P f args (fun v' => v' = v) := by
  intro w out g zs hw ho hz; obtain rfl := ha _ _ _ _ hz; refine (h w hw).mono ?_; rintro e w' ⟨rfl, hb⟩; exact ⟨v, y, rfl, rfl, hp, hv _ _ _, hb⟩
theorem FnP.intro {Pre : World → Prop} {P : Program} {f : FuncId} {fn : Func} {code : Code} {n : Nat} {rs : List ResultVar} {args : List V} {post : V → Prop} (hf : Is P f fn code n rs) (hp : ∀ v ∈ args, v.pure) (hn : args.length ≤ n)
    (h : ∀ w0 out, Pre w0 → AW ⟨P, w0, out, [], []⟩ code (QF P rs post) ⟨n, vV 0 args, [], []⟩) : FnP Pre P f args post := by
  intro w out g xs hw bE hx; refine calls_of_wp hf.func hf.body ?_
  have hs : Sim ⟨P, w, out, [], []⟩ g ⟨n, vV 0 args, [], []⟩ { tmps := xs.toArray ++ Array.replicate (fn.ntmps - xs.toArray.size) undef, defers := [] } w := by
    refine ⟨?_, rfl, ?_, by simp [fnd], by simp [fnd], by simp, by simp [fnd], by simp [fnd], bE, Below.refl _ _⟩
    · simp [hf.ntmps, ← hx.1]; omega
    · intro i v hv
      obtain ⟨_, h2⟩ := bD args 0 i v hv; simp only [Nat.sub_zero] at h2; have hi : i < xs.length := by rw [← hx.1]; exact (List.getElem?_eq_some_iff.1 h2).1
      refine ⟨xs[i], ?_, ?_⟩
      · grind
      · refine (hx.2 i v _ h2 (List.getElem?_eq_getElem hi)).mono Cells.rfl (fun b hb _ => ⟨hb, by simp [fnd]⟩) (fun r _ => rfl)
  refine wp_mono (h w out hw g _ w hs) fun e a' w' hq => ?_; obtain ⟨g', s', h1, h2⟩ := hq
  have fin : (∃ vs, uX P s' rs vs ∧ post (zZ vs) ∧ (zZ vs).pure) → a'.defers = [] ∧ ∃ v, (results fn a'.tmps).run P w' = .ok v w' ∧ ∃ v_1 x, Ending.returned v = .returned x ∧ post v_1 ∧ v_1.pure ∧ VRep w' (fun b => ¬ out b) g v_1 x ∧ Below w.heap.size w w' := by
    rintro ⟨vs, k1, k2, k3⟩; obtain ⟨x, k4, k5⟩ := uD (c := ⟨P, w, out, [], []⟩) hf.results h2 k1
    exact ⟨h2.defers, x, k5, _, x, rfl, k2, k3, (k4.repure k3).mono Cells.rfl (fun b hb _ => hb.1) (fun r _ => rfl), h2.below⟩
  cases e with
  | normal => exact fin h1
  | ret => exact fin h1
  | _ => exact h1.elim
section
variable {c : Cx} {s : S} {o : Oper}
theorem yL {fx : Operand} {xs : Array Operand} {ts : Array TypeId} {n : Nat} (hk : jp0 Pre) (h0 : Pre c.w0) (xY : FnP Pre c.P f args post) (hf : Is c.P f fn code n rs) (ho : o.op = .call { callee := .value fx, args := xs, argTypes := ts })
    (wc : s.ev fx = some (.fn f [])) (xJ : xs.toList.map s.ev = args.map some) (hd : dok s o = true) : StepM c o s (fun s' => ∃ v, post v ∧ v.pure ∧ s' = s.put o.dst v) := by
  intro g a w hs K Q hK
  have uY : a.eval fx = .func (.func f) #[] ([] : List Value).toArray := by
    have h := hs.ev wc; generalize a.eval fx = u at h
    cases h with
    | fn _ _ cs hl _ =>
      obtain rfl : cs = [] := by cases cs with | nil => rfl | cons => simp at hl
      rfl
  have hx : y9 w (fun b => ¬ ¬ qt c s.H g b) g args (xs.toList.map a.eval) := by
    refine ⟨by simpa using (congrArg List.length xJ).symm, fun j u y hu hy => ?_⟩; have h1 := congrArg (fun l => l[j]?) xJ; simp only [List.getElem?_map, hu, map_some] at h1 hy
    cases h2 : xs.toList[j]? with
    | none => rw [h2] at h1; cases h1
    | some p =>
      rw [h2] at h1 hy; simp only [map_some, Option.some.injEq] at h1 hy; subst hy
      exact (hs.ev h1).mono Cells.rfl (fun b hb _ => not_not_intro hb) (fun r _ => rfl)
  unfold Oper.wp; rw [wj (caps := []) hf ho uY]; simp only [Oper.upon, append_nil]; refine (xY w (fun b => ¬ qt c s.H g b) g _ (hk _ _ hs.below h0) ?_ hx).mono ?_
  · intro b hb
    rcases Classical.em (c.out b) with h | h
    · exact lt_of_lt_of_le (hs.low b h) hs.below.size
    · rcases Classical.em (∃ r row, fnd s.H r = some row ∧ row.nil = false ∧ (g r).1 = b) with ⟨r, row, h1, h2, rfl⟩ | h'
      · obtain ⟨arr, h3, _⟩ := hs.obj r row h1 h2
        exact (Array.getElem?_eq_some_iff.1 h3).1
      · exact absurd ⟨h, fun r row h1 h2 h3 => h' ⟨r, row, h1, h2, h3⟩⟩ hb
  · rintro e w' ⟨v, x, rfl, h1, h2, h3, h4⟩
    refine hK g _ _ _ ⟨v, h1, h2, rfl⟩ ((hs.move h4).put o.dst (zJ hd) ?_) h4
    exact h3.mono Cells.rfl (fun b hb _ => Classical.not_not.1 hb) (fun r _ => rfl)
end
theorem yM (P : Program) (name : String) (k : IntKind) (zs : List Int) : jp0 (fun w => Lib.TabIs P w name k zs) := by
  intro w w' hb h; unfold Lib.TabIs World.var? at h ⊢
  cases hg : P.globalNamed name with
  | none => rw [hg] at h; simp at h
  | some g =>
    rw [hg] at h; simp only [Option.bind_some] at h ⊢
    cases ho : w.heap[g]? with
    | none => rw [ho] at h; simp at h
    | some ob => rw [hb.block g (Array.getElem?_eq_some_iff.1 ho).1]; exact h
theorem qx (n : Nat) (h : ∀ w0 out, Pre w0 → AW ⟨P, w0, out, [], []⟩ code (QF P rs post) ⟨n, vV 0 args, [], []⟩) (hf : Is P f fn code n rs := by exact zF) (hp : ∀ v ∈ args, v.pure := by simp [V.pure, V.has, V.hasL]) (hn : args.length ≤ n := by simp) : FnP Pre P f args post := FnP.intro hf hp hn h
section
variable {c : Cx} {s : S} {o : Oper} {Q : Exit → S → Prop} {ops : Array Oper} {rest : List Oper}
theorem qA {fx : Operand} {xs : Array Operand} {ts : Array TypeId} {fn : Func} {code : Code} {n : Nat} {rs : List ResultVar} {y : V} (xY : FnP Pre c.P f args (fun v => v = y)) (hN : AL c ops rest Q (s.put o.dst y)) (hk : jp0 Pre := by exact yM _ _ _ _) (h0 : Pre c.w0 := by assumption) (hf : Is c.P f fn code n rs := by exact zF) (hg : o.guard = none := by exact rfl) (ho : o.op = .call { callee := .value fx, args := xs, argTypes := ts } := by exact rfl) (wc : s.ev fx = some (.fn f []) := by exact rfl) (xJ : xs.toList.map s.ev = args.map some := by exact rfl) (hd : dok s o = true := by exact rfl) : AL c ops (o :: rest) Q s := qh hg (yL hk h0 xY hf ho wc xJ hd) fun v hv _ => by rw [hv]; exact hN
end
end Go.Proofs.YthiknkcigcglkaaGreatDoor
