/- Part 7 of what the law EmptiesRemoves rests on. -/
import Derived.Test.YthlcginebeapdaaPkEm1
import Derived.Test.YthlcginebeapdaaPkEm2
import Derived.Test.YthlcginebeapdaaPkEm3
import Derived.Test.YthlcginebeapdaaPkEm4
import Derived.Test.YthlcginebeapdaaPkEm5
import Derived.Test.YthlcginebeapdaaPkEm6
namespace Go.Proofs.Ythlcginebeapdaa
open Go.RowKit
set_option linter.unusedSimpArgs false
set_option linter.unusedVariables false
set_option maxRecDepth 100000

abbrev encK3 (p : K3) : Value := .agg #[.int .i64 p.1, .int .i64 p.2.1, .int .i64 p.2.2]
theorem range3 : List.range' 0 3 = [0, 1, 2] := rfl
theorem eqT1 (n : Nat) (a1 a2 a3 b1 b2 b3 : Int) (w : World) : (Op.equalIn (n + 2) 84 (.agg #[.int .i64 a1, .int .i64 a2, .int .i64 a3]) (.agg #[.int .i64 b1, .int .i64 b2, .int .i64 b3])).run Try.prog w = .ok (decide (a1 = b1) && decide (a2 = b2) && decide (a3 = b3)) w := by
 have hi : ∀ (x y : Int) (w : World), (Op.equalIn (n + 1) 3 (.int .i64 x) (.int .i64 y)).run Try.prog w = .ok (x == y) w := fun x y w => by simp [go_sem]
 unfold Op.equalIn
 simp only [Sem.run_bind, run_underlying Try.underlying84, Result.andThen_ok]
 by_cases h1 : a1 = b1 <;> by_cases h2 : a2 = b2 <;> by_cases h3 : a3 = b3 <;> simp [range3, go_sem, hi, h1, h2, h3]
theorem eqT (a b : K3) (w : World) : (Op.equal 84 (encK3 a) (encK3 b)).run Try.prog w = .ok (decide (a = b)) w := by
 obtain ⟨a1, a2, a3⟩ := a
 obtain ⟨b1, b2, b3⟩ := b
 refine (eqT1 9998 a1 a2 a3 b1 b2 b3 w).trans ?_
 congr 1
 rw [Bool.eq_iff_iff]
 simp [and_assoc]
theorem checkT (b : Bool) (a : K3) (w : World) : (Instr.checkKey b 10000 84 (encK3 a)).run Try.prog w = .ok () w := by
 have : ∀ n : Nat, (Instr.checkKey b (n + 2) 84 (encK3 a)).run Try.prog w = .ok () w := fun n => by
  have hi : ∀ (x : Int) (w : World), (Instr.checkKey b (n + 1) 3 (.int .i64 x)).run Try.prog w = .ok () w := fun x w => by simp [Instr.checkKey, go_sem]
  unfold Instr.checkKey
  simp only [Sem.run_bind, run_underlying Try.underlying84, Result.andThen_ok]
  simp [range3, encK3, go_sem, hi]
 exact this 9998
theorem askT (a : K3) (w : World) : ∀ (l : List (K3 × Int)) (i j : Nat), (Instr.findAsking 84 (encK3 a) (((mrows encK3 l).zipIdx j).map fun x => ({ key := x.1.1, val := x.1.2, born := x.2 } : MapEntry)) i).run Try.prog w = .ok ((mfind l a i).map fun x => (x.1, .int .i64 x.2)) w
 | [], i, j => by simp [Instr.findAsking, mrows, mfind]
 | (k, v) :: l, i, j => by
  have ih := askT a w l (i + 1) (j + 1)
  simp only [mrows, List.map_cons, List.zipIdx_cons, Instr.findAsking, Sem.run_bind, eqT, Result.andThen_ok, mfind] at ih ⊢
  by_cases e : a = k
  ·subst e; simp
  ·simp only [e, decide_false, if_false]
   simpa [mrows] using ih
theorem keyOk84 : KeyOk Try.prog 84 encK3 := by
 refine ⟨checkT, fun l a w => ?_, fun a => ?_⟩
 ·have hnow : ∀ (l : List (K3 × Int)) (j : Nat), l ≠ [] → ∀ n e, Instr.findNow (.array n e) (encK3 a) (((mrows encK3 l).zipIdx j).map fun x => ({ key := x.1.1, val := x.1.2, born := x.2 } : MapEntry)) 0 = none := by
   intro l j hl n e
   cases l with
   | nil => exact absurd rfl hl
   | cons x l => simp [mrows, List.zipIdx_cons, Instr.findNow, Instr.sameNow]
  simp only [Instr.findKey, Sem.run_bind, run_underlying Try.underlying84, Result.andThen_ok, ments, List.toList_toArray]
  by_cases hl : l = []
  ·subst hl; simp [mrows, Instr.findNow, mfind]
  ·rw [hnow l 0 hl]
   exact askT a w l 0 0
 ·have : ∀ n : Nat, Instr.sameBits (n + 2) (encK3 a) (encK3 a) = true := fun n => by simp [Instr.sameBits]
  exact this 9998
theorem keyE84 {w : World} {q : Nat → Prop} {g : Nat → Nat × Nat} {a b d : Int} {v : Value} (h : VRep w q g (.agg [.i a, .i b, .i d]) v) : v = encK3 (a, b, d) := by
 cases h with
 | agg _ cs hl h =>
  match cs, hl with
  | [x, y, z], _ =>
   rw [VRep.p_eq (h 0 _ _ rfl rfl), VRep.p_eq (h 1 _ _ rfl rfl), VRep.p_eq (h 2 _ _ rfl rfl)]
theorem rep_K3 {w : World} {q : Nat → Prop} {g : Nat → Nat × Nat} (k : K3) : VRep w q g (.agg [.i k.1, .i k.2.1, .i k.2.2]) (encK3 k) :=
 .agg _ [.int .i64 k.1, .int .i64 k.2.1, .int .i64 k.2.2] rfl fun j u y hu hy => by
  match j, hu, hy with
  | 0, hu, hy => simp at hu hy; subst hu hy; exact .d _ _ (.p _)
  | 1, hu, hy => simp at hu hy; subst hu hy; exact .d _ _ (.p _)
  | 2, hu, hy => simp at hu hy; subst hu hy; exact .d _ _ (.p _)
  | n + 3, hu, hy => simp at hu

/-- The arcs behind a hop, one by one. -/
def shf (d : Nat) (a : Ar) : Ar := ⟨a.i, a.o, (d : Int) + a.w, a.t⟩
def shL (d : Nat) (l : List Ar) : List Ar := (l.filter fun a => !emp a).map (shf d)
theorem shL_skip {d : Nat} {l : List Ar} {j : Nat} {a : Ar} (h : l[j]? = some a) (he : emp a = true) : shL d (l.take (j + 1)) = shL d (l.take j) := by
 rw [take_snoc h, shL, List.filter_append]
 simp [he, shL]
theorem shL_snoc {d : Nat} {l : List Ar} {j : Nat} {a : Ar} (h : l[j]? = some a) (he : emp a = false) : shL d (l.take (j + 1)) = shL d (l.take j) ++ [shf d a] := by
 rw [take_snoc h, shL, List.filter_append]
 simp [he, shL]
theorem allA_none {D : Nat → Nat} {sts : List St} {p : Nat} (h : D p = big) : allA D sts (p + 1) = allA D sts p := by simp [allA, shA, h]
theorem allA_some {D : Nat → Nat} {sts : List St} {p : Nat} {x : St} (hx : sts[p]? = some x) (h : D p ≠ big) : allA D sts (p + 1) = allA D sts p ++ shL (D p) x.arcs := by
 simp only [allA, shA, if_neg h, stA_of hx]; rfl
theorem encF_big {x : Nat} (hx : x ≤ big) : encF x = 1000000001 ↔ x = big := by
 unfold encF
 by_cases h : x = big
 ·simp [h]
 ·rw [if_neg h]
  by_cases h2 : x = 1000000001
  ·rw [if_pos h2]
   constructor
   ·intro h3; omega
   ·intro h3; exact absurd h3 h
  ·rw [if_neg h2]
   constructor
   ·intro h3; omega
   ·intro h3; exact absurd h3 h
/-- What the program keeps of the final cost, step by step. -/
theorem encF_take {D : Nat → Nat} {sts : List St} {p f : Nat} {x : St} (hx : sts[p]? = some x) (hd : D p ≠ big) (hf : x.fin = (f : Int)) (hf1 : f ≠ 1000000001) (hb : D p + f < big) (ht : encF (finN D sts p) = 1000000001 ∨ ((D p + f : Nat) : Int) < encF (finN D sts p)) : encF (finN D sts (p + 1)) = if D p + f = 1000000001 then 1000000002 else ((D p + f : Nat) : Int) := by
 have hle := finN_le D sts p
 have hfn : x.fin.toNat = f := by omega
 have hfi : x.fin ≠ 1000000001 := by omega
 by_cases hc : D p + f < finN D sts p
 ·rw [finN_lt hx hd hfi (by rw [hfn]; exact hc), hfn]
  unfold encF
  rw [if_neg (by omega)]
 ·rw [finN_ge hx (by rw [hfn]; exact hc)]
  generalize finN D sts p = F at hle ht hc ⊢
  have hF : F ≠ big := by omega
  have h1 : ¬ encF F = 1000000001 := fun h => hF ((encF_big hle).1 h)
  have h2 : ((D p + f : Nat) : Int) < encF F := by
   rcases ht with h | h
   ·exact absurd h h1
   ·exact h
  unfold encF at h1 h2 ⊢
  rw [if_neg hF] at h1 h2 ⊢
  by_cases h3 : F = 1000000001
  ·rw [if_pos h3] at h1 h2 ⊢
   rw [if_pos (by omega)]
  ·rw [if_neg h3] at h1 h2 ⊢
   omega
theorem encF_keep {D : Nat → Nat} {sts : List St} {p f : Nat} {x : St} (hx : sts[p]? = some x) (hf : x.fin = (f : Int)) (hb : D p + f < big) (h1 : encF (finN D sts p) ≠ 1000000001) (h2 : ¬ ((D p + f : Nat) : Int) < encF (finN D sts p)) : finN D sts (p + 1) = finN D sts p := by
 have hle := finN_le D sts p
 refine finN_ge hx ?_
 have hfn : x.fin.toNat = f := by omega
 rw [hfn]
 intro h3
 refine h2 ?_
 have hFb : finN D sts p ≠ big := fun h => h1 ((encF_big hle).2 h)
 unfold encF
 rw [if_neg hFb]
 by_cases h4 : finN D sts p = 1000000001
 ·rw [if_pos h4]; omega
 ·rw [if_neg h4]; omega
theorem seen_perm {n : Nat} {seen : List Nat} (h1 : seen.Nodup) (h2 : ∀ j ∈ seen, j < n) (h3 : ∀ j, j < n → j ∈ seen) : seen.Perm (List.range n) :=
 (List.perm_ext_iff_of_nodup h1 List.nodup_range).2 fun j => ⟨fun h => List.mem_range.2 (h2 j h), fun h => h3 j (List.mem_range.1 h)⟩
theorem seen_map {α β : Type} (f : α → β) (x0 : α) (M : List α) {seen : List Nat} (h1 : seen.Nodup) (h2 : ∀ j ∈ seen, j < M.length) (h3 : ∀ j, j < M.length → j ∈ seen) : (seen.map fun j => f (M.getD j x0)).Perm (M.map f) := by
 have h := (seen_perm h1 h2 h3).map (fun j => f (M.getD j x0))
 have e : (List.range M.length).map (fun j => f (M.getD j x0)) = M.map f := by
  refine List.ext_getElem? fun i => ?_
  by_cases hi : i < M.length
  ·rw [List.getElem?_map, List.getElem?_map, List.getElem?_range hi, List.getElem?_eq_getElem hi]
   simp [List.getD_eq_getElem?_getD, List.getElem?_eq_getElem hi]
  ·rw [List.getElem?_eq_none (by simp; omega), List.getElem?_eq_none (by simp; omega)]
 rw [← e]; exact h
theorem perm_any {α : Type} {p : α → Bool} {l l' : List α} (h : l.Perm l') : l.any p = l'.any p := by
 rw [Bool.eq_iff_iff, List.any_eq_true, List.any_eq_true]
 constructor
 ·rintro ⟨x, h1, h2⟩; exact ⟨x, h.mem_iff.1 h1, h2⟩
 ·rintro ⟨x, h1, h2⟩; exact ⟨x, h.mem_iff.2 h1, h2⟩
abbrev ovA (a : Ar) : Bool := decide (1000000000 < a.w)

theorem shA_mem {D : Nat → Nat} {sts : List St} {p : Nat} {a : Ar} (h : a ∈ shA D sts p) : ∃ b ∈ stA sts p, a = shf (D p) b := by
 unfold shA at h
 split at h
 ·cases h
 ·obtain ⟨b, hb, rfl⟩ := List.mem_map.1 h
  exact ⟨b, (List.mem_filter.1 hb).1, rfl⟩
theorem allA_mem {D : Nat → Nat} {sts : List St} {a : Ar} : ∀ {k : Nat}, a ∈ allA D sts k → ∃ p b, p < k ∧ b ∈ stA sts p ∧ a = shf (D p) b
 | 0, h => by cases h
 | k + 1, h => by
  rcases List.mem_append.1 h with h | h
  ·obtain ⟨p, b, h1, h2⟩ := allA_mem h
   exact ⟨p, b, by omega, h2⟩
  ·obtain ⟨b, h1, h2⟩ := shA_mem h
   exact ⟨k, b, by omega, h1, h2⟩
theorem emL_get {sts : List St} {i : Nat} (h : i < sts.length) : (emL sts)[i]? = some ⟨tldF (emF sts i), emA sts i⟩ := bl_get h
theorem emV_at {sts : List St} {n i : Nat} (h : emV sts n = false) (hi : i < n) : emO sts i = false := by
 unfold emV at h
 rw [List.any_eq_false] at h
 simpa using h i (List.mem_range.2 hi)
theorem rmv_done {st : Int} {sts P : List St} (h0 : machE ⟨st, sts⟩ = 0) (hPl : P.length = sts.length) (hP : ∀ (i : Nat) (x : St), P[i]? = some x → x.fin = encF (emF sts i) ∧ x.arcs.Perm (emA sts i)) (hO : emV sts sts.length = false) :
  (machE ⟨st, P⟩ = if 400 < arcN (emL sts) then 1 else 0) ∧ (machE ⟨st, P⟩ = 0 → resM inO ⟨st, P⟩ = ⟨st, emL sts⟩) := by
 obtain ⟨z1, z2, z3, z4⟩ := machE_zero h0
 simp only at z1 z2 z3 z4
 have hlen : arcN P = arcN (emL sts) := by
  unfold arcN
  congr 1
  refine List.ext_getElem? fun i => ?_
  by_cases hi : i < sts.length
  ·obtain ⟨x, hx⟩ := get_lt hPl hi
   rw [List.getElem?_map, List.getElem?_map, hx, emL_get hi]
   simp [(hP i x hx).2.length_eq]
  ·rw [List.getElem?_eq_none (by simp; omega), List.getElem?_eq_none (by simp [emL, bl]; omega)]
 have hfin : ∀ i, i < sts.length → encF (emF sts i) = tldF (emF sts i) ∧ finOk (encF (emF sts i)) = true := fun i hi => by
  have ho := emV_at hO hi
  unfold emO at ho
  simp only [Bool.or_eq_false_iff, decide_eq_false_iff_not] at ho
  have ho1 := ho.1
  generalize emF sts i = F at ho1
  unfold encF tldF finOk
  by_cases hb : F = big
  ·simp [hb]
  ·have : ¬ 1000000000 < F := fun h => ho1 ⟨hb, h⟩
   rw [if_neg hb, if_neg hb, if_neg (by omega), if_neg this]
   exact ⟨rfl, by simp; omega⟩
 have harc : ∀ i, i < sts.length → ∀ a ∈ emA sts i, arOk sts.length a = true := fun i hi a ha => by
  have ho := emV_at hO hi
  unfold emO at ho
  simp only [Bool.or_eq_false_iff, List.any_eq_false, decide_eq_true_eq] at ho
  have hw := ho.2 a ha
  obtain ⟨p, b, h1, h2, rfl⟩ := allA_mem ((inL_mem _ _).1 ha).1
  have hx : sts[p]? = some sts[p] := List.getElem?_eq_getElem h1
  rw [stA_of hx] at h2
  have h3 := (z4 _ (List.mem_of_getElem? hx)).2 b h2
  simp only [arOk, decide_eq_true_eq] at h3
  refine arOk_yes ?_
  simp only [shf] at hw ⊢
  omega
 have hall : P.all (stOk P.length) = true := by
  rw [List.all_eq_true]
  intro x hx
  obtain ⟨i, hi⟩ := List.getElem?_of_mem hx
  have hil : i < sts.length := by have := (List.getElem?_eq_some_iff.1 hi).1; omega
  obtain ⟨h1, h2⟩ := hP i x hi
  refine stOk_yes (by rw [h1]; exact (hfin i hil).2) ?_
  rw [List.all_eq_true]
  intro a ha
  rw [hPl]
  exact harc i hil a (h2.mem_iff.1 ha)
 have hmE : machE ⟨st, P⟩ = if 400 < arcN (emL sts) then 1 else 0 := by
  unfold machE
  simp only [hlen]
  by_cases h4 : 400 < arcN (emL sts)
  ·rw [if_pos (.inr h4), if_pos h4]
  ·rw [if_neg (by omega), if_neg h4, if_pos ⟨⟨z3.1, by simp only [hPl]; exact z3.2⟩, hall⟩]
 refine ⟨hmE, fun h => ?_⟩
 unfold resM
 rw [if_pos h]
 simp only [Mach.mk.injEq, true_and]
 refine List.ext_getElem? fun i => ?_
 by_cases hi : i < sts.length
 ·obtain ⟨x, hx⟩ := get_lt hPl hi
  obtain ⟨h1, h2⟩ := hP i x hx
  rw [List.getElem?_map, hx, emL_get hi]
  simp only [Option.map_some, h1, (hfin i hi).1]
  have := inO_of_perm h2
  rw [this]; rfl
 ·rw [List.getElem?_eq_none (by simp; omega), List.getElem?_eq_none (by simp [emL, bl]; omega)]

set_option maxHeartbeats 4000000 in
theorem am_Remove0 (m : Mach) : Fn Try.prog 21 [mV m] (fun v => resP (emE m) (emR m) v) := by
 by_cases h0 : machE m = 0
 ·have hz := machE_zero h0
  have hbig := big_eq
  obtain ⟨e, he⟩ : ∃ e, emE m = e := ⟨_, rfl⟩
  obtain ⟨R, hR⟩ : ∃ R, emR m = R := ⟨_, rfl⟩
  have hE : e = if emV m.states m.states.length = true then 4 else if 400 < arcN (emL m.states) then 5 else 0 := by rw [← he]; unfold emE; rw [if_neg (by simp [h0])]
  have hRR : e = 0 → R = ⟨m.start, emL m.states⟩ := fun h => by rw [← hR]; unfold emR; rw [if_pos (he.trans h)]
  rw [he, hR]
  clear he hR
  obtain ⟨st, sts⟩ := m
  have hdone := fun P => rmv_done (P := P) h0
  simp only at hz hE hRR
  obtain ⟨n, hn⟩ : ∃ n, sts.length = n := ⟨_, rfl⟩
  obtain ⟨hz1, hz2, hz3, hz4⟩ := hz
  have hnear : ∀ q, q < n → _ := fun q hq => am_near ⟨st, sts⟩ q h0 (by simpa [hn] using hq)
  simp only at hnear
  rw [hn] at hz1 hz3 hz4 hE hdone hnear
  refine Fn.intro (n := 175) ⟨Try.func21, rfl, rfl, rfl, rfl⟩ (by simp [V.pure, V.has, V.hasL]) (by simp) fun w0 out => ?_
  refine AW.seq ?_
  refine AW.region ?_
  refine AL.sm rfl (sm_box 1 rfl rfl rfl rfl rfl) ?_
  refine AL.sm rfl (sm_alloc (l := [.d (.p (.int .i64 0)), .d (.p (.slice none 0 0))]) 2 inf24 rfl rfl rfl rfl) ?_
  refine AL.rp rfl rfl (rp_assign rfl rfl) ?_
  refine AL.nil ?_
  try simp only [thenS, S.put, S.newObj, setL, V.cs, List.length_cons, List.length_nil, List.take_succ_cons, List.take_zero, List.drop_succ_cons, List.drop_zero, List.drop_nil, List.nil_append, List.cons_append, List.append_nil, Nat.zero_add, Nat.reduceAdd, List.map_cons, List.map_nil, List.set_cons_zero, List.set_cons_succ, enum]
  refine AW.seq ?_
  refine AW.seq ?_
  refine AW.region ?_
  refine AL.rd rfl rfl (rd_loads_ref Try.underlying24 rfl inf24 rfl rfl rfl rfl rfl rfl) ?_
  refine AL.call (post := ?pc0) rfl (sm_call (args := [_]) ?hc0 ⟨Try.func10, rfl, rfl, rfl, rfl⟩ rfl rfl rfl rfl) ?_
  case hc0 => exact Fn.eqi (am_Check ⟨st, sts⟩) h0
  rintro _ rfl -
  try dsimp only
  refine AL.rp rfl rfl (rp_assign rfl rfl) ?_
  refine AL.nil ?_
  try simp only [thenS, S.put, S.newObj, setL, V.cs, List.length_cons, List.length_nil, List.take_succ_cons, List.take_zero, List.drop_succ_cons, List.drop_zero, List.drop_nil, List.nil_append, List.cons_append, List.append_nil, Nat.zero_add, Nat.reduceAdd, List.map_cons, List.map_nil, List.set_cons_zero, List.set_cons_succ]
  refine AW.seq ?_
  refine AW.region ?_
  refine AL.rp rfl rfl (rp_move rfl rfl) ?_
  (refine AL.rp rfl rfl (rp_neqF rfl rfl rfl (by first | assumption | omega | (dsimp only; omega))) ?_)
  refine AL.nil ?_
  try simp only [thenS, S.put]
  refine AW.condF rfl ?_
  refine AW.skip ?_
  try simp only [thenS]
  refine AW.seq ?_
  refine AW.region ?_
  refine AL.rp rfl rfl (rp_field_ref Try.underlying24 rfl rfl rfl inf3 (by decide) rfl) ?_
  refine AL.rd rfl rfl (rd_load_ref Try.underlying3 rfl rfl rfl rfl rfl rfl) ?_
  refine AL.rp rfl rfl (rp_build (vs := [(0, _)]) (zs := [.d (.p (.int .i64 0)), .d (.p (.slice none 0 0))]) pl24 inf24 rfl rfl rfl rfl) ?_
  refine AL.sm rfl (sm_alloc (l := [.d (.p (.int .i64 0)), .d (.p (.slice none 0 0))]) 5 inf24 rfl rfl rfl rfl) ?_
  refine AL.st rfl (st_store_any inf24 rfl rfl rfl rfl rfl rfl rfl rfl (by first | decide | (simp; done) | (simp; omega)) rfl) ?_
  refine AL.nil ?_
  try simp only [thenS, S.put, S.newObj, setL, V.cs, List.length_cons, List.length_nil, List.take_succ_cons, List.take_zero, List.drop_succ_cons, List.drop_zero, List.drop_nil, List.nil_append, List.cons_append, List.append_nil, Nat.zero_add, Nat.reduceAdd, List.map_cons, List.map_nil, List.set_cons_zero, List.set_cons_succ]
  refine AW.seq ?_
  refine AW.adoptH 5 1 901 2 50 rfl rfl rfl (by simp [S.clean, V.has, V.hasL, V.cs, setL]) ?_
  refine AW.region ?_
  refine AL.rp rfl rfl (rp_assign rfl rfl) ?_
  refine AL.nil ?_
  try simp only [thenS, S.put]
  refine AW.seq ?_
  refine AW.seq ?_
  refine AW.region ?_
  refine AL.rp rfl rfl (rp_field_ref Try.underlying24 rfl rfl rfl inf22 (by decide) rfl) ?_
  refine AL.rd rfl rfl (rd_load_ref Try.underlying22 rfl rfl rfl rfl rfl rfl) ?_
  refine AL.rp rfl rfl (rp_len_map Try.underlying22 rfl rfl (by assumption)) ?_
  refine AL.rp rfl rfl (rp_move rfl rfl) ?_
  refine AL.nil ?_
  try simp only [thenS, S.put]
  refine AW.block ?_
  refine AW.loop (fun s' => ∃ (q : Nat) (P : List St) (O : Bool), q ≤ n ∧ P.length = q ∧ (∀ (i : Nat) (x : St), P[i]? = some x → x.fin = encF (emF sts i) ∧ x.arcs.Perm (emA sts i)) ∧ O = emV sts q ∧ s' = ⟨175, [(1, .ref 1 0), (2, .ref 2 0), (5, .ref 5 0), (6, .b O), (31, .i n), (32, .i q)], [(1, ⟨24, [.i st, .d (stsD sts)], false, 0⟩), (2, ⟨24, [.i 0, .nil], false, 0⟩), (5, ⟨24, [.i st, .own 901 2 q (decide (q = 0))], false, 0⟩), (901, ⟨50, P.flatMap stV2, decide (q = 0), 2⟩)], []⟩) (fun s' => n - s'.nat 32) ⟨_, ?_, 0, [], false, by omega, rfl, (by simp), rfl, rfl⟩ ?_
  ·exact (Less.of rfl (by repeat (first | exact trivial | refine ⟨⟨_, rfl, Wk.refl _⟩, ?_⟩ | refine ⟨⟨_, rfl, Wk.nil _ _⟩, ?_⟩ | refine ⟨⟨_, rfl, Wk.junk _⟩, ?_⟩)) (by repeat (first | exact trivial | refine ⟨rfl, ?_⟩)) rfl)
  rintro s' ⟨q, P, O, hq, hPl, hP, hO, rfl⟩
  have hflP : (P.flatMap stV2).length = q * 2 := by rw [flat_len (sz := 2) (fun _ => rfl), hPl]
  by_cases hlt : q < n
  ·have hnr := hnear q hlt
   obtain ⟨dF, hD⟩ : ∃ dF, hop sts q = dF := ⟨_, rfl⟩
   obtain ⟨C, hC⟩ : ∃ C, (bl (hop sts q) n).map encM = C := ⟨_, rfl⟩
   have hCl : C.length = n := by rw [← hC, List.length_map, bl_len]
   have hCg : ∀ p, p < n → C[p]? = some (encM (dF p)) := fun p hp => by rw [← hC, ← hD]; exact encM_get (bl_get hp)
   have hDle : ∀ p, dF p ≤ big := fun p => by rw [← hD]; exact (dst_spec p).1
   rw [hC, hD] at hnr
   have hF0 : emF sts q = finN dF sts n := by unfold emF; rw [hD, hn]
   have hA0 : emA sts q = inL (allA dF sts n) := by unfold emA; rw [hD, hn]
   have hO0 := emV_succ sts q
   unfold emO at hO0
   rw [hF0, hA0, ← hO] at hO0
   clear hnear hdone hD hC hE hRR
   refine AW.seq ?_
   refine AW.region ?_
   (refine AL.rp rfl rfl (rp_lssT rfl rfl rfl (by first | assumption | omega | (dsimp only; omega))) ?_)
   refine AL.nil ?_
   try simp only [thenS, S.put]
   refine AW.seq ?_
   refine AW.condT rfl ?_
   refine AW.skip ?_
   try simp only [thenS]
   refine AW.seq ?_
   refine AW.block ?_
   refine AW.seq ?_
   refine AW.region ?_
   refine AL.rp rfl rfl (rp_move rfl rfl) ?_
   refine AL.rp rfl rfl (rp_assign rfl rfl) ?_
   refine AL.nil ?_
   try simp only [thenS, S.put]
   refine AW.seq ?_
   refine AW.region ?_
   refine AL.sm rfl (sm_makeMap 35 rfl (by simp [S.clean, S.put, S.newObj, S.forget, V.has, V.hasL, junkIf, setL, V.cs, hasL_i, hasL_d, hasL_b, hasL_s, hasL_n, hasL_rep, hasL_flat, hasL_append, -List.map_set]) rfl) ?_
   refine AL.rp rfl rfl (rp_assign rfl rfl) ?_
   refine AL.nil ?_
   try simp only [thenS, S.put, S.newObj, setL, V.cs, List.length_cons, List.length_nil, List.take_succ_cons, List.take_zero, List.drop_succ_cons, List.drop_zero, List.drop_nil, List.nil_append, List.cons_append, List.append_nil, Nat.zero_add, Nat.reduceAdd, List.map_cons, List.map_nil, List.set_cons_zero, List.set_cons_succ]
   refine AW.seq ?_
   refine AW.region ?_
   refine AL.rp rfl rfl (rp_build (vs := [(0, _)]) (zs := [.d (.p (.int .i64 0)), .d (.p (.slice none 0 0))]) pl50 inf50 rfl rfl rfl rfl) ?_
   refine AL.sm rfl (sm_alloc (l := [.d (.p (.int .i64 0)), .d (.p (.slice none 0 0))]) 9 inf50 rfl (by simp [S.clean, S.put, S.newObj, S.forget, V.has, V.hasL, junkIf, setL, V.cs, hasL_i, hasL_d, hasL_b, hasL_s, hasL_n, hasL_rep, hasL_flat, hasL_append, -List.map_set]) rfl rfl) ?_
   refine AL.st rfl (st_store_any inf50 rfl rfl rfl rfl rfl rfl rfl rfl (by first | decide | (simp; done) | (simp; omega)) rfl) ?_
   refine AL.nil ?_
   try simp only [thenS, S.put, S.newObj, setL, V.cs, List.length_cons, List.length_nil, List.take_succ_cons, List.take_zero, List.drop_succ_cons, List.drop_zero, List.drop_nil, List.nil_append, List.cons_append, List.append_nil, Nat.zero_add, Nat.reduceAdd, List.map_cons, List.map_nil, List.set_cons_zero, List.set_cons_succ]
   refine AW.seq ?_
   refine AW.seq ?_
   refine AW.adoptH 9 1 902 4 54 rfl rfl rfl (by simp [S.clean, V.has, V.hasL, V.cs, setL, hasL_flat]) ?_
   refine AW.region ?_
   refine AL.rd rfl rfl (rd_loads_ref Try.underlying24 rfl inf24 rfl rfl rfl rfl rfl rfl) ?_
   refine AL.rp rfl rfl (rp_move rfl rfl) ?_
   refine AL.call (post := ?pc1) rfl (sm_call (args := [_, _]) ?hc1 ⟨Try.func38, rfl, rfl, rfl, rfl⟩ rfl rfl rfl rfl) ?_
   case hc1 => exact hnr
   rintro _ ⟨rfl, hbd⟩ -
   try dsimp only
   refine AL.rp rfl rfl (rp_len_map Try.underlying82 rfl rfl (by assumption)) ?_
   refine AL.rp rfl rfl (rp_move rfl rfl) ?_
   refine AL.nil ?_
   try simp only [thenS, S.put, S.newObj, setL, V.cs, List.length_cons, List.length_nil, List.take_succ_cons, List.take_zero, List.drop_succ_cons, List.drop_zero, List.drop_nil, List.nil_append, List.cons_append, List.append_nil, Nat.zero_add, Nat.reduceAdd, List.map_cons, List.map_nil, List.set_cons_zero, List.set_cons_succ]
   refine AW.block ?_
   refine AW.loop (fun s' => ∃ (p : Nat) (M : List (K3 × Int)) (F : Nat), p ≤ n ∧ F = finN dF sts p ∧ M = mapM (allA dF sts p) ∧ s' = ⟨175, [(1, .ref 1 0), (2, .ref 2 0), (5, .ref 5 0), (6, .b O), (7, .i q), (8, .mp 35 w0.heap.size (mrows encK3 M)), (9, .ref 9 0), (31, .i n), (32, .i q), (39, .d (intsD C)), (40, .i n), (41, .i p)], [(1, ⟨24, [.i st, .d (stsD sts)], false, 0⟩), (2, ⟨24, [.i 0, .nil], false, 0⟩), (5, ⟨24, [.i st, .own 901 2 q (decide (q = 0))], false, 0⟩), (901, ⟨50, P.flatMap stV2, decide (q = 0), 2⟩), (9, ⟨50, [.i (encF F), .own 902 4 0 true], false, 0⟩), (902, ⟨54, [], true, 4⟩)], []⟩) (fun s' => n - s'.nat 41) ⟨_, ?_, 0, [], big, by omega, rfl, rfl, rfl⟩ ?_
   ·rw [(encF_big (Nat.le_refl _)).2 rfl]
    exact (Less.of rfl (by repeat (first | exact trivial | refine ⟨⟨_, rfl, Wk.refl _⟩, ?_⟩ | refine ⟨⟨_, rfl, Wk.nil _ _⟩, ?_⟩ | refine ⟨⟨_, rfl, Wk.junk _⟩, ?_⟩)) (by repeat (first | exact trivial | refine ⟨rfl, ?_⟩)) rfl)
   rintro s' ⟨p, M, F, hp, hF, hM, rfl⟩
   by_cases hltp : p < n
   ·obtain ⟨x, hx⟩ := get_lt hn hltp
    have hCp := hCg p hltp
    by_cases hd : dF p = big
    ·rw [hd, encM_big] at hCp
     have hF' := finN_none (D := dF) hx hd
     have hM' := allA_none (sts := sts) hd
     refine AW.seq ?_
     refine AW.region ?_
     (refine AL.rp rfl rfl (rp_lssT rfl rfl rfl (by first | assumption | omega | (dsimp only; omega))) ?_)
     refine AL.nil ?_
     try simp only [thenS, S.put]
     refine AW.seq ?_
     refine AW.condT rfl ?_
     refine AW.skip ?_
     try simp only [thenS]
     refine AW.seq ?_
     refine AW.block ?_
     refine AW.seq ?_
     refine AW.region ?_
     refine AL.rp rfl rfl (rp_move rfl rfl) ?_
     refine AL.rp rfl rfl (rp_index_map Try.underlying82 inf3 rfl rfl rfl rfl (by assumption)) ?_
     refine AL.rd rfl rfl (rd_load_ad Try.underlying3 rfl rfl rfl rfl) ?_
     refine AL.rp rfl rfl (rp_assign rfl rfl) ?_
     refine AL.rp rfl rfl (rp_assign rfl rfl) ?_
     refine AL.nil ?_
     try simp only [thenS, S.put]
     refine AW.seq ?_
     refine AW.seq ?_
     refine AW.region ?_
     refine AL.rp rfl rfl (rp_move rfl rfl) ?_
     (refine AL.rp rfl rfl (rp_lssT rfl rfl rfl (by first | assumption | omega | (dsimp only; omega))) ?_)
     refine AL.nil ?_
     try simp only [thenS, S.put]
     refine AW.condT rfl ?_
     refine AW.exit ?_
     try simp only [thenS, inBlockS, ↓reduceIte, Nat.reduceEqDiff]
     refine AW.region ?_
     refine AL.rp rfl rfl (rp_add rfl rfl rfl (by first | omega | (dsimp only; omega))) ?_
     refine AL.rp rfl rfl (rp_move rfl rfl) ?_
     refine AL.nil ?_
     try simp only [thenS, S.put]
     refine ⟨_, ?_, ⟨p + 1, M, F, by omega, by rw [hF', hF], by rw [hM', hM], rfl⟩, ?_⟩
     ·exact (Less.of rfl (by repeat (first | exact trivial | refine ⟨⟨_, rfl, Wk.refl _⟩, ?_⟩ | refine ⟨⟨_, rfl, Wk.nil _ _⟩, ?_⟩ | refine ⟨⟨_, rfl, Wk.junk _⟩, ?_⟩)) (by repeat (first | exact trivial | refine ⟨rfl, ?_⟩)) rfl)
     ·simp [S.nat, fnd]; omega
    ·have hdl := hDle p
     have hx4 := hz4 x (List.mem_of_getElem? hx)
     have hxl := arcs_le (List.mem_of_getElem? hx)
     obtain ⟨xf, xa⟩ := x
     simp only [finOk, decide_eq_true_eq] at hx4
     obtain ⟨⟨hf0, hf1⟩, hxa⟩ := hx4
     obtain ⟨f, rfl⟩ := Int.eq_ofNat_of_zero_le hf0
     have hbp := hbd p hltp
     obtain ⟨d, hdd⟩ : ∃ d, dF p = d := ⟨_, rfl⟩
     have hdf : dF p + f < big := by
      have := hbp (by omega)
      omega
     have htake := encF_take (D := dF) hx hd rfl
     have hkeep := encF_keep (D := dF) hx rfl hdf
     have hinf := fun h => finN_inf (D := dF) hx h
     have hall := allA_some (D := dF) hx hd
     simp only at hxl hxa hinf hall
     rw [hdd] at hCp hd hdl hbp hdf htake hkeep hall
     rw [encM_lt (by omega)] at hCp
     have hd60 := hbp (by omega)
     obtain ⟨la, hla⟩ : ∃ la, xa.length = la := ⟨_, rfl⟩
     obtain ⟨F', hF'⟩ : ∃ F', finN dF sts (p + 1) = F' := ⟨_, rfl⟩
     rw [hF', ← hF] at htake hkeep hinf
     obtain ⟨E, hE⟩ : ∃ E, encF F = E := ⟨_, rfl⟩
     rw [hE] at htake hkeep ⊢
     refine AW.seq ?_
     refine AW.region ?_
     (refine AL.rp rfl rfl (rp_lssT rfl rfl rfl (by first | assumption | omega | (dsimp only; omega))) ?_)
     refine AL.nil ?_
     try simp only [thenS, S.put]
     refine AW.seq ?_
     refine AW.condT rfl ?_
     refine AW.skip ?_
     try simp only [thenS]
     refine AW.seq ?_
     refine AW.block ?_
     refine AW.seq ?_
     refine AW.region ?_
     refine AL.rp rfl rfl (rp_move rfl rfl) ?_
     refine AL.rp rfl rfl (rp_index_map Try.underlying82 inf3 rfl rfl rfl rfl (by assumption)) ?_
     refine AL.rd rfl rfl (rd_load_ad Try.underlying3 rfl rfl rfl rfl) ?_
     refine AL.rp rfl rfl (rp_assign rfl rfl) ?_
     refine AL.rp rfl rfl (rp_assign rfl rfl) ?_
     refine AL.nil ?_
     try simp only [thenS, S.put]
     refine AW.seq ?_
     refine AW.seq ?_
     refine AW.region ?_
     refine AL.rp rfl rfl (rp_move rfl rfl) ?_
     (refine AL.rp rfl rfl (rp_lssF rfl rfl rfl (by first | assumption | omega | (dsimp only; omega))) ?_)
     refine AL.nil ?_
     try simp only [thenS, S.put]
     refine AW.condF rfl ?_
     refine AW.skip ?_
     try simp only [thenS]
     refine AW.seqc (fun s' => s' = ⟨175, [(1, .ref 1 0), (2, .ref 2 0), (5, .ref 5 0), (6, .b O), (7, .i q), (8, .mp 35 w0.heap.size (mrows encK3 M)), (9, .ref 9 0), (10, .i p), (11, .i d), (31, .i n), (32, .i q), (39, .d (intsD C)), (40, .i n), (41, .i p)], [(1, ⟨24, [.i st, .d (stsD sts)], false, 0⟩), (2, ⟨24, [.i 0, .nil], false, 0⟩), (5, ⟨24, [.i st, .own 901 2 q (decide (q = 0))], false, 0⟩), (901, ⟨50, P.flatMap stV2, decide (q = 0), 2⟩), (9, ⟨50, [.i (encF F'), .own 902 4 0 true], false, 0⟩), (902, ⟨54, [], true, 4⟩)], []⟩) ?_ ?_
     ·skip
      by_cases hfi : f = 1000000001
      ·have hFF : F' = F := hinf (by omega)
       rw [hFF, hE]
       have hfi' : (f : Int) = 1000000001 := by omega
       refine AW.seq ?_
       refine AW.region ?_
       refine AL.rp rfl rfl (rp_field_ref Try.underlying24 rfl rfl rfl inf22 (by decide) rfl) ?_
       refine AL.rd rfl rfl (rd_load_ref Try.underlying22 rfl rfl rfl rfl rfl rfl) ?_
       refine AL.rp rfl rfl (rp_move rfl rfl) ?_
       refine AL.rp rfl rfl (rp_index_map Try.underlying22 inf50 rfl rfl rfl rfl (by assumption)) ?_
       refine AL.rp rfl rfl (rp_field_ad Try.underlying50 rfl rfl rfl inf3 (by decide) rfl) ?_
       refine AL.rd rfl rfl (rd_load_ad Try.underlying3 rfl rfl rfl rfl) ?_
       refine AL.rp rfl rfl (rp_assign rfl rfl) ?_
       refine AL.nil ?_
       try simp only [thenS, S.put]
       refine AW.seq ?_
       refine AW.region ?_
       refine AL.rp rfl rfl (rp_move rfl rfl) ?_
       (refine AL.rp rfl rfl (rp_neqF rfl rfl rfl (by first | assumption | omega | (dsimp only; omega))) ?_)
       refine AL.rp rfl rfl (rp_move rfl rfl) ?_
       refine AL.noV rfl rfl rfl rfl ?_
       refine AL.noV rfl rfl rfl rfl ?_
       refine AL.noV rfl rfl rfl rfl ?_
       refine AL.noV rfl rfl rfl rfl ?_
       refine AL.noU rfl ⟨_, rfl, rfl⟩ rfl ?_
       refine AL.noU rfl ⟨_, rfl, rfl⟩ rfl ?_
       refine AL.noU rfl ⟨_, rfl, rfl⟩ rfl ?_
       refine AL.noU rfl ⟨_, rfl, rfl⟩ rfl ?_
       refine AL.noU rfl ⟨_, rfl, rfl⟩ rfl ?_
       refine AL.noU rfl ⟨_, rfl, rfl⟩ rfl ?_
       refine AL.noV rfl rfl rfl rfl ?_
       refine AL.rp rfl rfl (rp_pick rfl rfl rfl) ?_
       refine AL.nil ?_
       try simp only [thenS, S.put]
       refine AW.condF rfl ?_
       refine AW.skip ?_
       try simp only [thenS]
       refine ⟨_, ?_, rfl⟩
       exact (Less.of rfl (by repeat (first | exact trivial | refine ⟨⟨_, rfl, Wk.refl _⟩, ?_⟩ | refine ⟨⟨_, rfl, Wk.nil _ _⟩, ?_⟩ | refine ⟨⟨_, rfl, Wk.junk _⟩, ?_⟩)) (by repeat (first | exact trivial | refine ⟨rfl, ?_⟩)) rfl)
      ·have hfi' : ¬ (f : Int) = 1000000001 := by omega
       by_cases hE1 : E = 1000000001 ∨ ((d + f : Nat) : Int) < E
       ·have hst := htake hfi hdf hE1
        by_cases hs : d + f = 1000000001
        ·rw [if_pos hs] at hst
         rw [hst]
         have hs' : (d : Int) + (f : Int) = 1000000001 := by omega
         by_cases hE2 : E = 1000000001
         ·skip
          refine AW.seq ?_
          refine AW.region ?_
          refine AL.rp rfl rfl (rp_field_ref Try.underlying24 rfl rfl rfl inf22 (by decide) rfl) ?_
          refine AL.rd rfl rfl (rd_load_ref Try.underlying22 rfl rfl rfl rfl rfl rfl) ?_
          refine AL.rp rfl rfl (rp_move rfl rfl) ?_
          refine AL.rp rfl rfl (rp_index_map Try.underlying22 inf50 rfl rfl rfl rfl (by assumption)) ?_
          refine AL.rp rfl rfl (rp_field_ad Try.underlying50 rfl rfl rfl inf3 (by decide) rfl) ?_
          refine AL.rd rfl rfl (rd_load_ad Try.underlying3 rfl rfl rfl rfl) ?_
          refine AL.rp rfl rfl (rp_assign rfl rfl) ?_
          refine AL.nil ?_
          try simp only [thenS, S.put]
          refine AW.seq ?_
          refine AW.region ?_
          refine AL.rp rfl rfl (rp_move rfl rfl) ?_
          (refine AL.rp rfl rfl (rp_neqT rfl rfl rfl (by first | assumption | omega | (dsimp only; omega))) ?_)
          refine AL.rp rfl rfl (rp_move rfl rfl) ?_
          refine AL.rpy rfl rfl rfl (rp_field_ref Try.underlying50 rfl rfl rfl inf3 (by decide) rfl) ?_
          refine AL.rdy rfl rfl rfl (rd_load_ref Try.underlying3 rfl rfl rfl rfl rfl rfl) ?_
          (refine AL.rpy rfl rfl rfl (rp_eqlT rfl rfl rfl (by first | assumption | omega | (dsimp only; omega))) ?_)
          refine AL.rpy rfl rfl rfl (rp_move rfl rfl) ?_
          refine AL.noV rfl rfl rfl rfl ?_
          refine AL.noV rfl rfl rfl rfl ?_
          refine AL.noV rfl rfl rfl rfl ?_
          refine AL.noV rfl rfl rfl rfl ?_
          refine AL.noV rfl rfl rfl rfl ?_
          refine AL.noV rfl rfl rfl rfl ?_
          refine AL.rpy rfl rfl rfl (rp_pick rfl rfl rfl) ?_
          refine AL.rp rfl rfl (rp_pick rfl rfl rfl) ?_
          refine AL.nil ?_
          try simp only [thenS, S.put]
          refine AW.condT rfl ?_
          refine AW.seq ?_
          refine AW.region ?_
          refine AL.rp rfl rfl (rp_move rfl rfl) ?_
          refine AL.rp rfl rfl (rp_move rfl rfl) ?_
          refine AL.rp rfl rfl (rp_add rfl rfl rfl (by first | omega | (dsimp only; omega))) ?_
          refine AL.rp rfl rfl (rp_field_ref Try.underlying50 rfl rfl rfl inf3 (by decide) rfl) ?_
          (refine AL.st rfl (st_store inf3 rfl rfl rfl rfl rfl rfl rfl (by first | decide | (simp; done)) rfl) ?_)
          refine AL.nil ?_
          try simp only [thenS, S.put, S.newObj, setL, V.cs, List.length_cons, List.length_nil, List.take_succ_cons, List.take_zero, List.drop_succ_cons, List.drop_zero, List.drop_nil, List.nil_append, List.cons_append, List.append_nil, Nat.zero_add, Nat.reduceAdd, List.map_cons, List.map_nil, List.set_cons_zero, List.set_cons_succ]
          refine AW.seq ?_
          refine AW.region ?_
          refine AL.rp rfl rfl (rp_field_ref Try.underlying50 rfl rfl rfl inf3 (by decide) rfl) ?_
          refine AL.rd rfl rfl (rd_load_ref Try.underlying3 rfl rfl rfl rfl rfl rfl) ?_
          (refine AL.rp rfl rfl (rp_eqlT rfl rfl rfl (by first | assumption | omega | (dsimp only; omega))) ?_)
          refine AL.nil ?_
          try simp only [thenS, S.put]
          refine AW.condT rfl ?_
          refine AW.region ?_
          refine AL.rp rfl rfl (rp_field_ref Try.underlying50 rfl rfl rfl inf3 (by decide) rfl) ?_
          refine AL.rd rfl rfl (rd_load_ref Try.underlying3 rfl rfl rfl rfl rfl rfl) ?_
          refine AL.rp rfl rfl (rp_add rfl rfl rfl (by first | omega | (dsimp only; omega))) ?_
          refine AL.rp rfl rfl (rp_field_ref Try.underlying50 rfl rfl rfl inf3 (by decide) rfl) ?_
          (refine AL.st rfl (st_store inf3 rfl rfl rfl rfl rfl rfl rfl (by first | decide | (simp; done)) rfl) ?_)
          refine AL.nil ?_
          try simp only [thenS, S.put, S.newObj, setL, V.cs, List.length_cons, List.length_nil, List.take_succ_cons, List.take_zero, List.drop_succ_cons, List.drop_zero, List.drop_nil, List.nil_append, List.cons_append, List.append_nil, Nat.zero_add, Nat.reduceAdd, List.map_cons, List.map_nil, List.set_cons_zero, List.set_cons_succ]
          rw [hs']
          refine ⟨_, ?_, rfl⟩
          exact (Less.of rfl (by repeat (first | exact trivial | refine ⟨⟨_, rfl, Wk.refl _⟩, ?_⟩ | refine ⟨⟨_, rfl, Wk.nil _ _⟩, ?_⟩ | refine ⟨⟨_, rfl, Wk.junk _⟩, ?_⟩)) (by repeat (first | exact trivial | refine ⟨rfl, ?_⟩)) rfl)
         ·have hE3 : (d : Int) + (f : Int) < E := by
           rcases hE1 with h | h
           ·exact absurd h hE2
           ·omega
          refine AW.seq ?_
          refine AW.region ?_
          refine AL.rp rfl rfl (rp_field_ref Try.underlying24 rfl rfl rfl inf22 (by decide) rfl) ?_
          refine AL.rd rfl rfl (rd_load_ref Try.underlying22 rfl rfl rfl rfl rfl rfl) ?_
          refine AL.rp rfl rfl (rp_move rfl rfl) ?_
          refine AL.rp rfl rfl (rp_index_map Try.underlying22 inf50 rfl rfl rfl rfl (by assumption)) ?_
          refine AL.rp rfl rfl (rp_field_ad Try.underlying50 rfl rfl rfl inf3 (by decide) rfl) ?_
          refine AL.rd rfl rfl (rd_load_ad Try.underlying3 rfl rfl rfl rfl) ?_
          refine AL.rp rfl rfl (rp_assign rfl rfl) ?_
          refine AL.nil ?_
          try simp only [thenS, S.put]
          refine AW.seq ?_
          refine AW.region ?_
          refine AL.rp rfl rfl (rp_move rfl rfl) ?_
          (refine AL.rp rfl rfl (rp_neqT rfl rfl rfl (by first | assumption | omega | (dsimp only; omega))) ?_)
          refine AL.rp rfl rfl (rp_move rfl rfl) ?_
          refine AL.rpy rfl rfl rfl (rp_field_ref Try.underlying50 rfl rfl rfl inf3 (by decide) rfl) ?_
          refine AL.rdy rfl rfl rfl (rd_load_ref Try.underlying3 rfl rfl rfl rfl rfl rfl) ?_
          (refine AL.rpy rfl rfl rfl (rp_eqlF rfl rfl rfl (by first | assumption | omega | (dsimp only; omega))) ?_)
          refine AL.rpy rfl rfl rfl (rp_move rfl rfl) ?_
          refine AL.rpy rfl rfl rfl (rp_move rfl rfl) ?_
          refine AL.rpy rfl rfl rfl (rp_move rfl rfl) ?_
          (refine AL.rpy rfl rfl rfl (rp_add rfl rfl rfl (by first | omega | (dsimp only; omega))) ?_)
          refine AL.rpy rfl rfl rfl (rp_field_ref Try.underlying50 rfl rfl rfl inf3 (by decide) rfl) ?_
          refine AL.rdy rfl rfl rfl (rd_load_ref Try.underlying3 rfl rfl rfl rfl rfl rfl) ?_
          (refine AL.rpy rfl rfl rfl (rp_lssT rfl rfl rfl (by first | assumption | omega | (dsimp only; omega))) ?_)
          refine AL.rpy rfl rfl rfl (rp_pick rfl rfl rfl) ?_
          refine AL.rp rfl rfl (rp_pick rfl rfl rfl) ?_
          refine AL.nil ?_
          try simp only [thenS, S.put]
          refine AW.condT rfl ?_
          refine AW.seq ?_
          refine AW.region ?_
          refine AL.rp rfl rfl (rp_move rfl rfl) ?_
          refine AL.rp rfl rfl (rp_move rfl rfl) ?_
          refine AL.rp rfl rfl (rp_add rfl rfl rfl (by first | omega | (dsimp only; omega))) ?_
          refine AL.rp rfl rfl (rp_field_ref Try.underlying50 rfl rfl rfl inf3 (by decide) rfl) ?_
          (refine AL.st rfl (st_store inf3 rfl rfl rfl rfl rfl rfl rfl (by first | decide | (simp; done)) rfl) ?_)
          refine AL.nil ?_
          try simp only [thenS, S.put, S.newObj, setL, V.cs, List.length_cons, List.length_nil, List.take_succ_cons, List.take_zero, List.drop_succ_cons, List.drop_zero, List.drop_nil, List.nil_append, List.cons_append, List.append_nil, Nat.zero_add, Nat.reduceAdd, List.map_cons, List.map_nil, List.set_cons_zero, List.set_cons_succ]
          refine AW.seq ?_
          refine AW.region ?_
          refine AL.rp rfl rfl (rp_field_ref Try.underlying50 rfl rfl rfl inf3 (by decide) rfl) ?_
          refine AL.rd rfl rfl (rd_load_ref Try.underlying3 rfl rfl rfl rfl rfl rfl) ?_
          (refine AL.rp rfl rfl (rp_eqlT rfl rfl rfl (by first | assumption | omega | (dsimp only; omega))) ?_)
          refine AL.nil ?_
          try simp only [thenS, S.put]
          refine AW.condT rfl ?_
          refine AW.region ?_
          refine AL.rp rfl rfl (rp_field_ref Try.underlying50 rfl rfl rfl inf3 (by decide) rfl) ?_
          refine AL.rd rfl rfl (rd_load_ref Try.underlying3 rfl rfl rfl rfl rfl rfl) ?_
          refine AL.rp rfl rfl (rp_add rfl rfl rfl (by first | omega | (dsimp only; omega))) ?_
          refine AL.rp rfl rfl (rp_field_ref Try.underlying50 rfl rfl rfl inf3 (by decide) rfl) ?_
          (refine AL.st rfl (st_store inf3 rfl rfl rfl rfl rfl rfl rfl (by first | decide | (simp; done)) rfl) ?_)
          refine AL.nil ?_
          try simp only [thenS, S.put, S.newObj, setL, V.cs, List.length_cons, List.length_nil, List.take_succ_cons, List.take_zero, List.drop_succ_cons, List.drop_zero, List.drop_nil, List.nil_append, List.cons_append, List.append_nil, Nat.zero_add, Nat.reduceAdd, List.map_cons, List.map_nil, List.set_cons_zero, List.set_cons_succ]
          rw [hs']
          refine ⟨_, ?_, rfl⟩
          exact (Less.of rfl (by repeat (first | exact trivial | refine ⟨⟨_, rfl, Wk.refl _⟩, ?_⟩ | refine ⟨⟨_, rfl, Wk.nil _ _⟩, ?_⟩ | refine ⟨⟨_, rfl, Wk.junk _⟩, ?_⟩)) (by repeat (first | exact trivial | refine ⟨rfl, ?_⟩)) rfl)
        ·rw [if_neg hs, Int.natCast_add] at hst
         rw [hst]
         have hs' : ¬ (d : Int) + (f : Int) = 1000000001 := by omega
         by_cases hE2 : E = 1000000001
         ·skip
          refine AW.seq ?_
          refine AW.region ?_
          refine AL.rp rfl rfl (rp_field_ref Try.underlying24 rfl rfl rfl inf22 (by decide) rfl) ?_
          refine AL.rd rfl rfl (rd_load_ref Try.underlying22 rfl rfl rfl rfl rfl rfl) ?_
          refine AL.rp rfl rfl (rp_move rfl rfl) ?_
          refine AL.rp rfl rfl (rp_index_map Try.underlying22 inf50 rfl rfl rfl rfl (by assumption)) ?_
          refine AL.rp rfl rfl (rp_field_ad Try.underlying50 rfl rfl rfl inf3 (by decide) rfl) ?_
          refine AL.rd rfl rfl (rd_load_ad Try.underlying3 rfl rfl rfl rfl) ?_
          refine AL.rp rfl rfl (rp_assign rfl rfl) ?_
          refine AL.nil ?_
          try simp only [thenS, S.put]
          refine AW.seq ?_
          refine AW.region ?_
          refine AL.rp rfl rfl (rp_move rfl rfl) ?_
          (refine AL.rp rfl rfl (rp_neqT rfl rfl rfl (by first | assumption | omega | (dsimp only; omega))) ?_)
          refine AL.rp rfl rfl (rp_move rfl rfl) ?_
          refine AL.rpy rfl rfl rfl (rp_field_ref Try.underlying50 rfl rfl rfl inf3 (by decide) rfl) ?_
          refine AL.rdy rfl rfl rfl (rd_load_ref Try.underlying3 rfl rfl rfl rfl rfl rfl) ?_
          (refine AL.rpy rfl rfl rfl (rp_eqlT rfl rfl rfl (by first | assumption | omega | (dsimp only; omega))) ?_)
          refine AL.rpy rfl rfl rfl (rp_move rfl rfl) ?_
          refine AL.noV rfl rfl rfl rfl ?_
          refine AL.noV rfl rfl rfl rfl ?_
          refine AL.noV rfl rfl rfl rfl ?_
          refine AL.noV rfl rfl rfl rfl ?_
          refine AL.noV rfl rfl rfl rfl ?_
          refine AL.noV rfl rfl rfl rfl ?_
          refine AL.rpy rfl rfl rfl (rp_pick rfl rfl rfl) ?_
          refine AL.rp rfl rfl (rp_pick rfl rfl rfl) ?_
          refine AL.nil ?_
          try simp only [thenS, S.put]
          refine AW.condT rfl ?_
          refine AW.seq ?_
          refine AW.region ?_
          refine AL.rp rfl rfl (rp_move rfl rfl) ?_
          refine AL.rp rfl rfl (rp_move rfl rfl) ?_
          refine AL.rp rfl rfl (rp_add rfl rfl rfl (by first | omega | (dsimp only; omega))) ?_
          refine AL.rp rfl rfl (rp_field_ref Try.underlying50 rfl rfl rfl inf3 (by decide) rfl) ?_
          (refine AL.st rfl (st_store inf3 rfl rfl rfl rfl rfl rfl rfl (by first | decide | (simp; done)) rfl) ?_)
          refine AL.nil ?_
          try simp only [thenS, S.put, S.newObj, setL, V.cs, List.length_cons, List.length_nil, List.take_succ_cons, List.take_zero, List.drop_succ_cons, List.drop_zero, List.drop_nil, List.nil_append, List.cons_append, List.append_nil, Nat.zero_add, Nat.reduceAdd, List.map_cons, List.map_nil, List.set_cons_zero, List.set_cons_succ]
          refine AW.seq ?_
          refine AW.region ?_
          refine AL.rp rfl rfl (rp_field_ref Try.underlying50 rfl rfl rfl inf3 (by decide) rfl) ?_
          refine AL.rd rfl rfl (rd_load_ref Try.underlying3 rfl rfl rfl rfl rfl rfl) ?_
          (refine AL.rp rfl rfl (rp_eqlF rfl rfl rfl (by first | assumption | omega | (dsimp only; omega))) ?_)
          refine AL.nil ?_
          try simp only [thenS, S.put]
          refine AW.condF rfl ?_
          refine AW.skip ?_
          try simp only [thenS]
          refine ⟨_, ?_, rfl⟩
          exact (Less.of rfl (by repeat (first | exact trivial | refine ⟨⟨_, rfl, Wk.refl _⟩, ?_⟩ | refine ⟨⟨_, rfl, Wk.nil _ _⟩, ?_⟩ | refine ⟨⟨_, rfl, Wk.junk _⟩, ?_⟩)) (by repeat (first | exact trivial | refine ⟨rfl, ?_⟩)) rfl)
         ·have hE3 : (d : Int) + (f : Int) < E := by
           rcases hE1 with h | h
           ·exact absurd h hE2
           ·omega
          refine AW.seq ?_
          refine AW.region ?_
          refine AL.rp rfl rfl (rp_field_ref Try.underlying24 rfl rfl rfl inf22 (by decide) rfl) ?_
          refine AL.rd rfl rfl (rd_load_ref Try.underlying22 rfl rfl rfl rfl rfl rfl) ?_
          refine AL.rp rfl rfl (rp_move rfl rfl) ?_
          refine AL.rp rfl rfl (rp_index_map Try.underlying22 inf50 rfl rfl rfl rfl (by assumption)) ?_
          refine AL.rp rfl rfl (rp_field_ad Try.underlying50 rfl rfl rfl inf3 (by decide) rfl) ?_
          refine AL.rd rfl rfl (rd_load_ad Try.underlying3 rfl rfl rfl rfl) ?_
          refine AL.rp rfl rfl (rp_assign rfl rfl) ?_
          refine AL.nil ?_
          try simp only [thenS, S.put]
          refine AW.seq ?_
          refine AW.region ?_
          refine AL.rp rfl rfl (rp_move rfl rfl) ?_
          (refine AL.rp rfl rfl (rp_neqT rfl rfl rfl (by first | assumption | omega | (dsimp only; omega))) ?_)
          refine AL.rp rfl rfl (rp_move rfl rfl) ?_
          refine AL.rpy rfl rfl rfl (rp_field_ref Try.underlying50 rfl rfl rfl inf3 (by decide) rfl) ?_
          refine AL.rdy rfl rfl rfl (rd_load_ref Try.underlying3 rfl rfl rfl rfl rfl rfl) ?_
          (refine AL.rpy rfl rfl rfl (rp_eqlF rfl rfl rfl (by first | assumption | omega | (dsimp only; omega))) ?_)
          refine AL.rpy rfl rfl rfl (rp_move rfl rfl) ?_
          refine AL.rpy rfl rfl rfl (rp_move rfl rfl) ?_
          refine AL.rpy rfl rfl rfl (rp_move rfl rfl) ?_
          (refine AL.rpy rfl rfl rfl (rp_add rfl rfl rfl (by first | omega | (dsimp only; omega))) ?_)
          refine AL.rpy rfl rfl rfl (rp_field_ref Try.underlying50 rfl rfl rfl inf3 (by decide) rfl) ?_
          refine AL.rdy rfl rfl rfl (rd_load_ref Try.underlying3 rfl rfl rfl rfl rfl rfl) ?_
          (refine AL.rpy rfl rfl rfl (rp_lssT rfl rfl rfl (by first | assumption | omega | (dsimp only; omega))) ?_)
          refine AL.rpy rfl rfl rfl (rp_pick rfl rfl rfl) ?_
          refine AL.rp rfl rfl (rp_pick rfl rfl rfl) ?_
          refine AL.nil ?_
          try simp only [thenS, S.put]
          refine AW.condT rfl ?_
          refine AW.seq ?_
          refine AW.region ?_
          refine AL.rp rfl rfl (rp_move rfl rfl) ?_
          refine AL.rp rfl rfl (rp_move rfl rfl) ?_
          refine AL.rp rfl rfl (rp_add rfl rfl rfl (by first | omega | (dsimp only; omega))) ?_
          refine AL.rp rfl rfl (rp_field_ref Try.underlying50 rfl rfl rfl inf3 (by decide) rfl) ?_
          (refine AL.st rfl (st_store inf3 rfl rfl rfl rfl rfl rfl rfl (by first | decide | (simp; done)) rfl) ?_)
          refine AL.nil ?_
          try simp only [thenS, S.put, S.newObj, setL, V.cs, List.length_cons, List.length_nil, List.take_succ_cons, List.take_zero, List.drop_succ_cons, List.drop_zero, List.drop_nil, List.nil_append, List.cons_append, List.append_nil, Nat.zero_add, Nat.reduceAdd, List.map_cons, List.map_nil, List.set_cons_zero, List.set_cons_succ]
          refine AW.seq ?_
          refine AW.region ?_
          refine AL.rp rfl rfl (rp_field_ref Try.underlying50 rfl rfl rfl inf3 (by decide) rfl) ?_
          refine AL.rd rfl rfl (rd_load_ref Try.underlying3 rfl rfl rfl rfl rfl rfl) ?_
          (refine AL.rp rfl rfl (rp_eqlF rfl rfl rfl (by first | assumption | omega | (dsimp only; omega))) ?_)
          refine AL.nil ?_
          try simp only [thenS, S.put]
          refine AW.condF rfl ?_
          refine AW.skip ?_
          try simp only [thenS]
          refine ⟨_, ?_, rfl⟩
          exact (Less.of rfl (by repeat (first | exact trivial | refine ⟨⟨_, rfl, Wk.refl _⟩, ?_⟩ | refine ⟨⟨_, rfl, Wk.nil _ _⟩, ?_⟩ | refine ⟨⟨_, rfl, Wk.junk _⟩, ?_⟩)) (by repeat (first | exact trivial | refine ⟨rfl, ?_⟩)) rfl)
       ·have hE2 : ¬ E = 1000000001 := fun h => hE1 (.inl h)
        have hE3 : ¬ (d : Int) + (f : Int) < E := fun h => hE1 (.inr (by omega))
        have hFF : F' = F := hkeep hE2 (fun h => hE1 (.inr h))
        rw [hFF, hE]
        refine AW.seq ?_
        refine AW.region ?_
        refine AL.rp rfl rfl (rp_field_ref Try.underlying24 rfl rfl rfl inf22 (by decide) rfl) ?_
        refine AL.rd rfl rfl (rd_load_ref Try.underlying22 rfl rfl rfl rfl rfl rfl) ?_
        refine AL.rp rfl rfl (rp_move rfl rfl) ?_
        refine AL.rp rfl rfl (rp_index_map Try.underlying22 inf50 rfl rfl rfl rfl (by assumption)) ?_
        refine AL.rp rfl rfl (rp_field_ad Try.underlying50 rfl rfl rfl inf3 (by decide) rfl) ?_
        refine AL.rd rfl rfl (rd_load_ad Try.underlying3 rfl rfl rfl rfl) ?_
        refine AL.rp rfl rfl (rp_assign rfl rfl) ?_
        refine AL.nil ?_
        try simp only [thenS, S.put]
        refine AW.seq ?_
        refine AW.region ?_
        refine AL.rp rfl rfl (rp_move rfl rfl) ?_
        (refine AL.rp rfl rfl (rp_neqT rfl rfl rfl (by first | assumption | omega | (dsimp only; omega))) ?_)
        refine AL.rp rfl rfl (rp_move rfl rfl) ?_
        refine AL.rpy rfl rfl rfl (rp_field_ref Try.underlying50 rfl rfl rfl inf3 (by decide) rfl) ?_
        refine AL.rdy rfl rfl rfl (rd_load_ref Try.underlying3 rfl rfl rfl rfl rfl rfl) ?_
        (refine AL.rpy rfl rfl rfl (rp_eqlF rfl rfl rfl (by first | assumption | omega | (dsimp only; omega))) ?_)
        refine AL.rpy rfl rfl rfl (rp_move rfl rfl) ?_
        refine AL.rpy rfl rfl rfl (rp_move rfl rfl) ?_
        refine AL.rpy rfl rfl rfl (rp_move rfl rfl) ?_
        (refine AL.rpy rfl rfl rfl (rp_add rfl rfl rfl (by first | omega | (dsimp only; omega))) ?_)
        refine AL.rpy rfl rfl rfl (rp_field_ref Try.underlying50 rfl rfl rfl inf3 (by decide) rfl) ?_
        refine AL.rdy rfl rfl rfl (rd_load_ref Try.underlying3 rfl rfl rfl rfl rfl rfl) ?_
        (refine AL.rpy rfl rfl rfl (rp_lssF rfl rfl rfl (by first | assumption | omega | (dsimp only; omega))) ?_)
        refine AL.rpy rfl rfl rfl (rp_pick rfl rfl rfl) ?_
        refine AL.rp rfl rfl (rp_pick rfl rfl rfl) ?_
        refine AL.nil ?_
        try simp only [thenS, S.put]
        refine AW.condF rfl ?_
        refine AW.skip ?_
        try simp only [thenS]
        refine ⟨_, ?_, rfl⟩
        exact (Less.of rfl (by repeat (first | exact trivial | refine ⟨⟨_, rfl, Wk.refl _⟩, ?_⟩ | refine ⟨⟨_, rfl, Wk.nil _ _⟩, ?_⟩ | refine ⟨⟨_, rfl, Wk.junk _⟩, ?_⟩)) (by repeat (first | exact trivial | refine ⟨rfl, ?_⟩)) rfl)
     rintro s' rfl
     clear htake hkeep hinf hE hF
     refine AW.seq ?_
     refine AW.region ?_
     refine AL.rp rfl rfl (rp_field_ref Try.underlying24 rfl rfl rfl inf22 (by decide) rfl) ?_
     refine AL.rd rfl rfl (rd_load_ref Try.underlying22 rfl rfl rfl rfl rfl rfl) ?_
     refine AL.rp rfl rfl (rp_move rfl rfl) ?_
     refine AL.rp rfl rfl (rp_index_map Try.underlying22 inf50 rfl rfl rfl rfl (by assumption)) ?_
     refine AL.rp rfl rfl (rp_field_ad Try.underlying50 rfl rfl rfl inf48 (by decide) rfl) ?_
     refine AL.rd rfl rfl (rd_load_ad Try.underlying48 rfl rfl rfl rfl) ?_
     refine AL.rp rfl rfl (rp_len_map Try.underlying48 rfl rfl (by assumption)) ?_
     refine AL.rp rfl rfl (rp_move rfl rfl) ?_
     refine AL.nil ?_
     try simp only [thenS, S.put]
     refine AW.block ?_
     refine AW.loop (fun s' => ∃ (j : Nat) (M : List (K3 × Int)), j ≤ la ∧ M = mapM (allA dF sts p ++ shL d (xa.take j)) ∧ s' = ⟨175, [(1, .ref 1 0), (2, .ref 2 0), (5, .ref 5 0), (6, .b O), (7, .i q), (8, .mp 35 w0.heap.size (mrows encK3 M)), (9, .ref 9 0), (10, .i p), (11, .i d), (31, .i n), (32, .i q), (39, .d (intsD C)), (40, .i n), (41, .i p), (85, .d (arsD xa)), (86, .i la), (87, .i j)], [(1, ⟨24, [.i st, .d (stsD sts)], false, 0⟩), (2, ⟨24, [.i 0, .nil], false, 0⟩), (5, ⟨24, [.i st, .own 901 2 q (decide (q = 0))], false, 0⟩), (901, ⟨50, P.flatMap stV2, decide (q = 0), 2⟩), (9, ⟨50, [.i (encF F'), .own 902 4 0 true], false, 0⟩), (902, ⟨54, [], true, 4⟩)], []⟩) (fun s' => la - s'.nat 87) ⟨_, ?_, 0, M, by omega, by rw [hM]; simp [shL], rfl⟩ ?_
     ·exact (Less.of rfl (by repeat (first | exact trivial | refine ⟨⟨_, rfl, Wk.refl _⟩, ?_⟩ | refine ⟨⟨_, rfl, Wk.nil _ _⟩, ?_⟩ | refine ⟨⟨_, rfl, Wk.junk _⟩, ?_⟩)) (by repeat (first | exact trivial | refine ⟨rfl, ?_⟩)) rfl)
     clear hM
     rintro s' ⟨j, M, hj, hM, rfl⟩
     by_cases hltj : j < la
     ·obtain ⟨a, ha⟩ := get_lt hla hltj
      have ham := hxa a (List.mem_of_getElem? ha)
      simp only [arOk, decide_eq_true_eq] at ham
      obtain ⟨e, he⟩ : ∃ e, emp a = e := ⟨_, rfl⟩
      have hem := am_empty a e he
      have hskip := fun h => shL_skip (d := d) ha (he.trans h)
      have hsnoc := fun h => shL_snoc (d := d) ha (he.trans h)
      have hadd := fun h => (congrArg (fun l => mapM (allA dF sts p ++ l)) (hsnoc h)).trans (by rw [← List.append_assoc, mapM_snoc, ← hM])
      obtain ⟨ai, ao, aw, at'⟩ := a
      simp only [shf] at hadd ham
      clear hsnoc he
      cases hg : mget M (ai, ao, at') with
      | none =>
       cases e with
       | true =>
        have hs := hskip rfl
        clear hskip hadd
        refine AW.seq ?_
        refine AW.region ?_
        (refine AL.rp rfl rfl (rp_lssT rfl rfl rfl (by first | assumption | omega | (dsimp only; omega))) ?_)
        refine AL.nil ?_
        try simp only [thenS, S.put]
        refine AW.seq ?_
        refine AW.condT rfl ?_
        refine AW.skip ?_
        try simp only [thenS]
        refine AW.seq ?_
        refine AW.block ?_
        refine AW.seq ?_
        refine AW.region ?_
        refine AL.rp rfl rfl (rp_index_map Try.underlying48 inf54 rfl rfl rfl rfl (by assumption)) ?_
        refine AL.rd rfl rfl (rd_loads_ad Try.underlying54 rfl inf54 rfl rfl rfl rfl) ?_
        refine AL.sm rfl (sm_alloc (l := [.d (.p (.int .i64 0)), .d (.p (.int .i64 0)), .d (.p (.int .i64 0)), .d (.p (.int .i64 0))]) 14 inf54 rfl (by simp [S.clean, S.put, S.newObj, S.forget, V.has, V.hasL, junkIf, setL, V.cs, hasL_i, hasL_d, hasL_b, hasL_s, hasL_n, hasL_rep, hasL_flat, hasL_append, -List.map_set]) rfl rfl) ?_
        refine AL.st rfl (st_store_any inf54 rfl rfl rfl rfl rfl rfl rfl rfl (by first | decide | (simp; done) | (simp; omega)) rfl) ?_
        refine AL.nil ?_
        try simp only [thenS, S.put, S.newObj, setL, V.cs, List.length_cons, List.length_nil, List.take_succ_cons, List.take_zero, List.drop_succ_cons, List.drop_zero, List.drop_nil, List.nil_append, List.cons_append, List.append_nil, Nat.zero_add, Nat.reduceAdd, List.map_cons, List.map_nil, List.set_cons_zero, List.set_cons_succ]
        refine AW.seq ?_
        refine AW.region ?_
        refine AL.rp rfl rfl (rp_field_ref Try.underlying54 rfl rfl rfl inf3 (by decide) rfl) ?_
        refine AL.rd rfl rfl (rd_load_ref Try.underlying3 rfl rfl rfl rfl rfl rfl) ?_
        refine AL.rp rfl rfl (rp_field_ref Try.underlying54 rfl rfl rfl inf3 (by decide) rfl) ?_
        refine AL.rd rfl rfl (rd_load_ref Try.underlying3 rfl rfl rfl rfl rfl rfl) ?_
        refine AL.rp rfl rfl (rp_field_ref Try.underlying54 rfl rfl rfl inf3 (by decide) rfl) ?_
        refine AL.rd rfl rfl (rd_load_ref Try.underlying3 rfl rfl rfl rfl rfl rfl) ?_
        refine AL.rp rfl rfl (rp_build_arr (vs := [(0, _), (1, _), (2, _)]) (zs := [.d (.p (.int .i64 0)), .d (.p (.int .i64 0)), .d (.p (.int .i64 0))]) Try.underlying84 inf3 inf84 rfl rfl rfl rfl) ?_
        refine AL.sm rfl (sm_alloc (l := [.d (.p (.int .i64 0)), .d (.p (.int .i64 0)), .d (.p (.int .i64 0))]) 15 inf84 rfl (by simp [S.clean, S.put, S.newObj, S.forget, V.has, V.hasL, junkIf, setL, V.cs, hasL_i, hasL_d, hasL_b, hasL_s, hasL_n, hasL_rep, hasL_flat, hasL_append, -List.map_set]) rfl rfl) ?_
        refine AL.st rfl (st_store_any inf84 rfl rfl rfl rfl rfl rfl rfl rfl (by first | decide | (simp; done) | (simp; omega)) rfl) ?_
        refine AL.nil ?_
        try simp only [thenS, S.put, S.newObj, setL, V.cs, List.length_cons, List.length_nil, List.take_succ_cons, List.take_zero, List.drop_succ_cons, List.drop_zero, List.drop_nil, List.nil_append, List.cons_append, List.append_nil, Nat.zero_add, Nat.reduceAdd, List.map_cons, List.map_nil, List.set_cons_zero, List.set_cons_succ]
        refine AW.seq ?_
        refine AW.region ?_
        refine AL.rp rfl rfl (rp_move rfl rfl) ?_
        refine AL.rd rfl rfl (rd_loads_ref Try.underlying84 rfl inf84 rfl rfl rfl rfl rfl rfl) ?_
        refine AL.rd rfl rfl (rd_lookup_miss (keyOk84) Try.underlying81 inf3 rfl (.inl rfl) (fun g a w hs => keyE84 (hs.ev rfl)) (by assumption)) ?_
        refine AL.rp rfl rfl (rp_move rfl rfl) ?_
        refine AL.rp rfl rfl (rp_extract rfl rfl rfl) ?_
        refine AL.rp rfl rfl (rp_extract rfl rfl rfl) ?_
        refine AL.rp rfl rfl (rp_assign rfl rfl) ?_
        refine AL.rp rfl rfl (rp_assign rfl rfl) ?_
        refine AL.nil ?_
        try simp only [thenS, S.put]
        refine AW.seq ?_
        refine AW.region ?_
        refine AL.rd rfl rfl (rd_loads_ref Try.underlying54 rfl inf54 rfl rfl rfl rfl rfl rfl) ?_
        refine AL.call (post := ?pc2) rfl (sm_call (args := [_]) ?hc2 ⟨Try.func39, rfl, rfl, rfl, rfl⟩ rfl rfl rfl rfl) ?_
        case hc2 => exact hem
        rintro _ rfl -
        try dsimp only
        refine AL.rp rfl rfl (rp_not rfl rfl) ?_
        refine AL.rp rfl rfl (rp_move rfl rfl) ?_
        refine AL.noV rfl rfl rfl rfl ?_
        refine AL.noV rfl rfl rfl rfl ?_
        refine AL.noV rfl rfl rfl rfl ?_
        refine AL.noU rfl ⟨_, rfl, rfl⟩ rfl ?_
        refine AL.noU rfl ⟨_, rfl, rfl⟩ rfl ?_
        refine AL.noU rfl ⟨_, rfl, rfl⟩ rfl ?_
        refine AL.noU rfl ⟨_, rfl, rfl⟩ rfl ?_
        refine AL.noU rfl ⟨_, rfl, rfl⟩ rfl ?_
        refine AL.noU rfl ⟨_, rfl, rfl⟩ rfl ?_
        refine AL.noV rfl rfl rfl rfl ?_
        refine AL.rp rfl rfl (rp_pick rfl rfl rfl) ?_
        refine AL.nil ?_
        try simp only [thenS, S.put, S.newObj, setL, V.cs, List.length_cons, List.length_nil, List.take_succ_cons, List.take_zero, List.drop_succ_cons, List.drop_zero, List.drop_nil, List.nil_append, List.cons_append, List.append_nil, Nat.zero_add, Nat.reduceAdd, List.map_cons, List.map_nil, List.set_cons_zero, List.set_cons_succ]
        refine AW.condF rfl ?_
        refine AW.skip ?_
        try simp only [thenS]
        refine AW.region ?_
        refine AL.rp rfl rfl (rp_add rfl rfl rfl (by first | omega | (dsimp only; omega))) ?_
        refine AL.rp rfl rfl (rp_move rfl rfl) ?_
        refine AL.nil ?_
        try simp only [thenS, S.put]
        refine ⟨_, ?_, ⟨j + 1, M, by omega, by rw [hs, hM], rfl⟩, ?_⟩
        ·exact (Less.of rfl (by repeat (first | exact trivial | refine ⟨⟨_, rfl, Wk.refl _⟩, ?_⟩ | refine ⟨⟨_, rfl, Wk.nil _ _⟩, ?_⟩ | refine ⟨⟨_, rfl, Wk.junk _⟩, ?_⟩)) (by repeat (first | exact trivial | refine ⟨rfl, ?_⟩)) rfl)
        ·simp [S.nat, fnd]; omega
       | false =>
        have hs := hadd rfl
        have hl : lessM M ⟨ai, ao, (d : Int) + aw, at'⟩ = true := by simp only [lessM, ky, hg]
        simp only [addM, if_pos hl, ky] at hs
        clear hskip hadd hl
        refine AW.seq ?_
        refine AW.region ?_
        (refine AL.rp rfl rfl (rp_lssT rfl rfl rfl (by first | assumption | omega | (dsimp only; omega))) ?_)
        refine AL.nil ?_
        try simp only [thenS, S.put]
        refine AW.seq ?_
        refine AW.condT rfl ?_
        refine AW.skip ?_
        try simp only [thenS]
        refine AW.seq ?_
        refine AW.block ?_
        refine AW.seq ?_
        refine AW.region ?_
        refine AL.rp rfl rfl (rp_index_map Try.underlying48 inf54 rfl rfl rfl rfl (by assumption)) ?_
        refine AL.rd rfl rfl (rd_loads_ad Try.underlying54 rfl inf54 rfl rfl rfl rfl) ?_
        refine AL.sm rfl (sm_alloc (l := [.d (.p (.int .i64 0)), .d (.p (.int .i64 0)), .d (.p (.int .i64 0)), .d (.p (.int .i64 0))]) 14 inf54 rfl (by simp [S.clean, S.put, S.newObj, S.forget, V.has, V.hasL, junkIf, setL, V.cs, hasL_i, hasL_d, hasL_b, hasL_s, hasL_n, hasL_rep, hasL_flat, hasL_append, -List.map_set]) rfl rfl) ?_
        refine AL.st rfl (st_store_any inf54 rfl rfl rfl rfl rfl rfl rfl rfl (by first | decide | (simp; done) | (simp; omega)) rfl) ?_
        refine AL.nil ?_
        try simp only [thenS, S.put, S.newObj, setL, V.cs, List.length_cons, List.length_nil, List.take_succ_cons, List.take_zero, List.drop_succ_cons, List.drop_zero, List.drop_nil, List.nil_append, List.cons_append, List.append_nil, Nat.zero_add, Nat.reduceAdd, List.map_cons, List.map_nil, List.set_cons_zero, List.set_cons_succ]
        refine AW.seq ?_
        refine AW.region ?_
        refine AL.rp rfl rfl (rp_field_ref Try.underlying54 rfl rfl rfl inf3 (by decide) rfl) ?_
        refine AL.rd rfl rfl (rd_load_ref Try.underlying3 rfl rfl rfl rfl rfl rfl) ?_
        refine AL.rp rfl rfl (rp_field_ref Try.underlying54 rfl rfl rfl inf3 (by decide) rfl) ?_
        refine AL.rd rfl rfl (rd_load_ref Try.underlying3 rfl rfl rfl rfl rfl rfl) ?_
        refine AL.rp rfl rfl (rp_field_ref Try.underlying54 rfl rfl rfl inf3 (by decide) rfl) ?_
        refine AL.rd rfl rfl (rd_load_ref Try.underlying3 rfl rfl rfl rfl rfl rfl) ?_
        refine AL.rp rfl rfl (rp_build_arr (vs := [(0, _), (1, _), (2, _)]) (zs := [.d (.p (.int .i64 0)), .d (.p (.int .i64 0)), .d (.p (.int .i64 0))]) Try.underlying84 inf3 inf84 rfl rfl rfl rfl) ?_
        refine AL.sm rfl (sm_alloc (l := [.d (.p (.int .i64 0)), .d (.p (.int .i64 0)), .d (.p (.int .i64 0))]) 15 inf84 rfl (by simp [S.clean, S.put, S.newObj, S.forget, V.has, V.hasL, junkIf, setL, V.cs, hasL_i, hasL_d, hasL_b, hasL_s, hasL_n, hasL_rep, hasL_flat, hasL_append, -List.map_set]) rfl rfl) ?_
        refine AL.st rfl (st_store_any inf84 rfl rfl rfl rfl rfl rfl rfl rfl (by first | decide | (simp; done) | (simp; omega)) rfl) ?_
        refine AL.nil ?_
        try simp only [thenS, S.put, S.newObj, setL, V.cs, List.length_cons, List.length_nil, List.take_succ_cons, List.take_zero, List.drop_succ_cons, List.drop_zero, List.drop_nil, List.nil_append, List.cons_append, List.append_nil, Nat.zero_add, Nat.reduceAdd, List.map_cons, List.map_nil, List.set_cons_zero, List.set_cons_succ]
        refine AW.seq ?_
        refine AW.region ?_
        refine AL.rp rfl rfl (rp_move rfl rfl) ?_
        refine AL.rd rfl rfl (rd_loads_ref Try.underlying84 rfl inf84 rfl rfl rfl rfl rfl rfl) ?_
        refine AL.rd rfl rfl (rd_lookup_miss (keyOk84) Try.underlying81 inf3 rfl (.inl rfl) (fun g a w hs => keyE84 (hs.ev rfl)) (by assumption)) ?_
        refine AL.rp rfl rfl (rp_move rfl rfl) ?_
        refine AL.rp rfl rfl (rp_extract rfl rfl rfl) ?_
        refine AL.rp rfl rfl (rp_extract rfl rfl rfl) ?_
        refine AL.rp rfl rfl (rp_assign rfl rfl) ?_
        refine AL.rp rfl rfl (rp_assign rfl rfl) ?_
        refine AL.nil ?_
        try simp only [thenS, S.put]
        refine AW.seq ?_
        refine AW.region ?_
        refine AL.rd rfl rfl (rd_loads_ref Try.underlying54 rfl inf54 rfl rfl rfl rfl rfl rfl) ?_
        refine AL.call (post := ?pc3) rfl (sm_call (args := [_]) ?hc3 ⟨Try.func39, rfl, rfl, rfl, rfl⟩ rfl rfl rfl rfl) ?_
        case hc3 => exact hem
        rintro _ rfl -
        try dsimp only
        refine AL.rp rfl rfl (rp_not rfl rfl) ?_
        refine AL.rp rfl rfl (rp_move rfl rfl) ?_
        refine AL.rpy rfl rfl rfl (rp_move rfl rfl) ?_
        refine AL.rpy rfl rfl rfl (rp_not rfl rfl) ?_
        refine AL.rpy rfl rfl rfl (rp_move rfl rfl) ?_
        refine AL.noV rfl rfl rfl rfl ?_
        refine AL.noV rfl rfl rfl rfl ?_
        refine AL.noV rfl rfl rfl rfl ?_
        refine AL.noV rfl rfl rfl rfl ?_
        refine AL.noV rfl rfl rfl rfl ?_
        refine AL.noV rfl rfl rfl rfl ?_
        refine AL.rpy rfl rfl rfl (rp_pick rfl rfl rfl) ?_
        refine AL.rp rfl rfl (rp_pick rfl rfl rfl) ?_
        refine AL.nil ?_
        try simp only [thenS, S.put, S.newObj, setL, V.cs, List.length_cons, List.length_nil, List.take_succ_cons, List.take_zero, List.drop_succ_cons, List.drop_zero, List.drop_nil, List.nil_append, List.cons_append, List.append_nil, Nat.zero_add, Nat.reduceAdd, List.map_cons, List.map_nil, List.set_cons_zero, List.set_cons_succ]
        refine AW.condT rfl ?_
        refine AW.region ?_
        refine AL.rp rfl rfl (rp_move rfl rfl) ?_
        refine AL.rd rfl rfl (rd_loads_ref Try.underlying84 rfl inf84 rfl rfl rfl rfl rfl rfl) ?_
        refine AL.rp rfl rfl (rp_move rfl rfl) ?_
        refine AL.rp rfl rfl (rp_field_ref Try.underlying54 rfl rfl rfl inf3 (by decide) rfl) ?_
        refine AL.rd rfl rfl (rd_load_ref Try.underlying3 rfl rfl rfl rfl rfl rfl) ?_
        refine AL.rp rfl rfl (rp_add rfl rfl rfl (by first | omega | (dsimp only; omega))) ?_
        refine AL.st rfl (st_mapUpdate (keyOk84) Try.underlying81 rfl rfl (by rfl) (fun g a w hs => keyE84 (hs.ev rfl)) rfl rfl (by simp [S.put, S.newObj, setL, V.cs, V.mpsL, V.mps, D.mps, D.mpsL, D.mpsR, mpsR_ars, mpsR_sts, V.one, mpsL_stV2, mpsL_arV2, mpsR_intsE, upM_agg3p, upM_agg4p, itsL_arV2, itsL_stV2]) rfl) ?_
        simp only [S.put, List.map_cons, List.map_nil, upM_p, upM_ref, upM_own, upM_mp, upM_junk, upM_tup, upM_sl,  mpsR_ars, mpsR_sts, mpsL_stV2, mpsL_arV2, mpsR_intsE, upM_agg3p, upM_agg4p, itsL_arV2, itsL_stV2]
        refine AL.nil ?_
        try simp only [thenS, S.put, S.newObj, setL, V.cs, List.length_cons, List.length_nil, List.take_succ_cons, List.take_zero, List.drop_succ_cons, List.drop_zero, List.drop_nil, List.nil_append, List.cons_append, List.append_nil, Nat.zero_add, Nat.reduceAdd, List.map_cons, List.map_nil, List.set_cons_zero, List.set_cons_succ]
        refine AW.region ?_
        refine AL.rp rfl rfl (rp_add rfl rfl rfl (by first | omega | (dsimp only; omega))) ?_
        refine AL.rp rfl rfl (rp_move rfl rfl) ?_
        refine AL.nil ?_
        try simp only [thenS, S.put]
        refine ⟨_, ?_, ⟨j + 1, _, by omega, hs.symm, rfl⟩, ?_⟩
        ·exact (Less.of rfl (by repeat (first | exact trivial | refine ⟨⟨_, rfl, Wk.refl _⟩, ?_⟩ | refine ⟨⟨_, rfl, Wk.nil _ _⟩, ?_⟩ | refine ⟨⟨_, rfl, Wk.junk _⟩, ?_⟩)) (by repeat (first | exact trivial | refine ⟨rfl, ?_⟩)) rfl)
        ·simp [S.nat, fnd]; omega
      | some v =>
       cases e with
       | true =>
        have hs := hskip rfl
        clear hskip hadd
        refine AW.seq ?_
        refine AW.region ?_
        (refine AL.rp rfl rfl (rp_lssT rfl rfl rfl (by first | assumption | omega | (dsimp only; omega))) ?_)
        refine AL.nil ?_
        try simp only [thenS, S.put]
        refine AW.seq ?_
        refine AW.condT rfl ?_
        refine AW.skip ?_
        try simp only [thenS]
        refine AW.seq ?_
        refine AW.block ?_
        refine AW.seq ?_
        refine AW.region ?_
        refine AL.rp rfl rfl (rp_index_map Try.underlying48 inf54 rfl rfl rfl rfl (by assumption)) ?_
        refine AL.rd rfl rfl (rd_loads_ad Try.underlying54 rfl inf54 rfl rfl rfl rfl) ?_
        refine AL.sm rfl (sm_alloc (l := [.d (.p (.int .i64 0)), .d (.p (.int .i64 0)), .d (.p (.int .i64 0)), .d (.p (.int .i64 0))]) 14 inf54 rfl (by simp [S.clean, S.put, S.newObj, S.forget, V.has, V.hasL, junkIf, setL, V.cs, hasL_i, hasL_d, hasL_b, hasL_s, hasL_n, hasL_rep, hasL_flat, hasL_append, -List.map_set]) rfl rfl) ?_
        refine AL.st rfl (st_store_any inf54 rfl rfl rfl rfl rfl rfl rfl rfl (by first | decide | (simp; done) | (simp; omega)) rfl) ?_
        refine AL.nil ?_
        try simp only [thenS, S.put, S.newObj, setL, V.cs, List.length_cons, List.length_nil, List.take_succ_cons, List.take_zero, List.drop_succ_cons, List.drop_zero, List.drop_nil, List.nil_append, List.cons_append, List.append_nil, Nat.zero_add, Nat.reduceAdd, List.map_cons, List.map_nil, List.set_cons_zero, List.set_cons_succ]
        refine AW.seq ?_
        refine AW.region ?_
        refine AL.rp rfl rfl (rp_field_ref Try.underlying54 rfl rfl rfl inf3 (by decide) rfl) ?_
        refine AL.rd rfl rfl (rd_load_ref Try.underlying3 rfl rfl rfl rfl rfl rfl) ?_
        refine AL.rp rfl rfl (rp_field_ref Try.underlying54 rfl rfl rfl inf3 (by decide) rfl) ?_
        refine AL.rd rfl rfl (rd_load_ref Try.underlying3 rfl rfl rfl rfl rfl rfl) ?_
        refine AL.rp rfl rfl (rp_field_ref Try.underlying54 rfl rfl rfl inf3 (by decide) rfl) ?_
        refine AL.rd rfl rfl (rd_load_ref Try.underlying3 rfl rfl rfl rfl rfl rfl) ?_
        refine AL.rp rfl rfl (rp_build_arr (vs := [(0, _), (1, _), (2, _)]) (zs := [.d (.p (.int .i64 0)), .d (.p (.int .i64 0)), .d (.p (.int .i64 0))]) Try.underlying84 inf3 inf84 rfl rfl rfl rfl) ?_
        refine AL.sm rfl (sm_alloc (l := [.d (.p (.int .i64 0)), .d (.p (.int .i64 0)), .d (.p (.int .i64 0))]) 15 inf84 rfl (by simp [S.clean, S.put, S.newObj, S.forget, V.has, V.hasL, junkIf, setL, V.cs, hasL_i, hasL_d, hasL_b, hasL_s, hasL_n, hasL_rep, hasL_flat, hasL_append, -List.map_set]) rfl rfl) ?_
        refine AL.st rfl (st_store_any inf84 rfl rfl rfl rfl rfl rfl rfl rfl (by first | decide | (simp; done) | (simp; omega)) rfl) ?_
        refine AL.nil ?_
        try simp only [thenS, S.put, S.newObj, setL, V.cs, List.length_cons, List.length_nil, List.take_succ_cons, List.take_zero, List.drop_succ_cons, List.drop_zero, List.drop_nil, List.nil_append, List.cons_append, List.append_nil, Nat.zero_add, Nat.reduceAdd, List.map_cons, List.map_nil, List.set_cons_zero, List.set_cons_succ]
        refine AW.seq ?_
        refine AW.region ?_
        refine AL.rp rfl rfl (rp_move rfl rfl) ?_
        refine AL.rd rfl rfl (rd_loads_ref Try.underlying84 rfl inf84 rfl rfl rfl rfl rfl rfl) ?_
        refine AL.rd rfl rfl (rd_lookup_hit (keyOk84) Try.underlying81 inf3 rfl (.inl rfl) (fun g a w hs => keyE84 (hs.ev rfl)) (by assumption)) ?_
        refine AL.rp rfl rfl (rp_move rfl rfl) ?_
        refine AL.rp rfl rfl (rp_extract rfl rfl rfl) ?_
        refine AL.rp rfl rfl (rp_extract rfl rfl rfl) ?_
        refine AL.rp rfl rfl (rp_assign rfl rfl) ?_
        refine AL.rp rfl rfl (rp_assign rfl rfl) ?_
        refine AL.nil ?_
        try simp only [thenS, S.put]
        refine AW.seq ?_
        refine AW.region ?_
        refine AL.rd rfl rfl (rd_loads_ref Try.underlying54 rfl inf54 rfl rfl rfl rfl rfl rfl) ?_
        refine AL.call (post := ?pc4) rfl (sm_call (args := [_]) ?hc4 ⟨Try.func39, rfl, rfl, rfl, rfl⟩ rfl rfl rfl rfl) ?_
        case hc4 => exact hem
        rintro _ rfl -
        try dsimp only
        refine AL.rp rfl rfl (rp_not rfl rfl) ?_
        refine AL.rp rfl rfl (rp_move rfl rfl) ?_
        refine AL.noV rfl rfl rfl rfl ?_
        refine AL.noV rfl rfl rfl rfl ?_
        refine AL.noV rfl rfl rfl rfl ?_
        refine AL.noU rfl ⟨_, rfl, rfl⟩ rfl ?_
        refine AL.noU rfl ⟨_, rfl, rfl⟩ rfl ?_
        refine AL.noU rfl ⟨_, rfl, rfl⟩ rfl ?_
        refine AL.noU rfl ⟨_, rfl, rfl⟩ rfl ?_
        refine AL.noU rfl ⟨_, rfl, rfl⟩ rfl ?_
        refine AL.noU rfl ⟨_, rfl, rfl⟩ rfl ?_
        refine AL.noV rfl rfl rfl rfl ?_
        refine AL.rp rfl rfl (rp_pick rfl rfl rfl) ?_
        refine AL.nil ?_
        try simp only [thenS, S.put, S.newObj, setL, V.cs, List.length_cons, List.length_nil, List.take_succ_cons, List.take_zero, List.drop_succ_cons, List.drop_zero, List.drop_nil, List.nil_append, List.cons_append, List.append_nil, Nat.zero_add, Nat.reduceAdd, List.map_cons, List.map_nil, List.set_cons_zero, List.set_cons_succ]
        refine AW.condF rfl ?_
        refine AW.skip ?_
        try simp only [thenS]
        refine AW.region ?_
        refine AL.rp rfl rfl (rp_add rfl rfl rfl (by first | omega | (dsimp only; omega))) ?_
        refine AL.rp rfl rfl (rp_move rfl rfl) ?_
        refine AL.nil ?_
        try simp only [thenS, S.put]
        refine ⟨_, ?_, ⟨j + 1, M, by omega, by rw [hs, hM], rfl⟩, ?_⟩
        ·exact (Less.of rfl (by repeat (first | exact trivial | refine ⟨⟨_, rfl, Wk.refl _⟩, ?_⟩ | refine ⟨⟨_, rfl, Wk.nil _ _⟩, ?_⟩ | refine ⟨⟨_, rfl, Wk.junk _⟩, ?_⟩)) (by repeat (first | exact trivial | refine ⟨rfl, ?_⟩)) rfl)
        ·simp [S.nat, fnd]; omega
       | false =>
        have hs := hadd rfl
        by_cases hv : (d : Int) + aw < v
        ·have hl : lessM M ⟨ai, ao, (d : Int) + aw, at'⟩ = true := by simp only [lessM, ky, hg]; exact decide_eq_true hv
         simp only [addM, if_pos hl, ky] at hs
         clear hskip hadd hl
         refine AW.seq ?_
         refine AW.region ?_
         (refine AL.rp rfl rfl (rp_lssT rfl rfl rfl (by first | assumption | omega | (dsimp only; omega))) ?_)
         refine AL.nil ?_
         try simp only [thenS, S.put]
         refine AW.seq ?_
         refine AW.condT rfl ?_
         refine AW.skip ?_
         try simp only [thenS]
         refine AW.seq ?_
         refine AW.block ?_
         refine AW.seq ?_
         refine AW.region ?_
         refine AL.rp rfl rfl (rp_index_map Try.underlying48 inf54 rfl rfl rfl rfl (by assumption)) ?_
         refine AL.rd rfl rfl (rd_loads_ad Try.underlying54 rfl inf54 rfl rfl rfl rfl) ?_
         refine AL.sm rfl (sm_alloc (l := [.d (.p (.int .i64 0)), .d (.p (.int .i64 0)), .d (.p (.int .i64 0)), .d (.p (.int .i64 0))]) 14 inf54 rfl (by simp [S.clean, S.put, S.newObj, S.forget, V.has, V.hasL, junkIf, setL, V.cs, hasL_i, hasL_d, hasL_b, hasL_s, hasL_n, hasL_rep, hasL_flat, hasL_append, -List.map_set]) rfl rfl) ?_
         refine AL.st rfl (st_store_any inf54 rfl rfl rfl rfl rfl rfl rfl rfl (by first | decide | (simp; done) | (simp; omega)) rfl) ?_
         refine AL.nil ?_
         try simp only [thenS, S.put, S.newObj, setL, V.cs, List.length_cons, List.length_nil, List.take_succ_cons, List.take_zero, List.drop_succ_cons, List.drop_zero, List.drop_nil, List.nil_append, List.cons_append, List.append_nil, Nat.zero_add, Nat.reduceAdd, List.map_cons, List.map_nil, List.set_cons_zero, List.set_cons_succ]
         refine AW.seq ?_
         refine AW.region ?_
         refine AL.rp rfl rfl (rp_field_ref Try.underlying54 rfl rfl rfl inf3 (by decide) rfl) ?_
         refine AL.rd rfl rfl (rd_load_ref Try.underlying3 rfl rfl rfl rfl rfl rfl) ?_
         refine AL.rp rfl rfl (rp_field_ref Try.underlying54 rfl rfl rfl inf3 (by decide) rfl) ?_
         refine AL.rd rfl rfl (rd_load_ref Try.underlying3 rfl rfl rfl rfl rfl rfl) ?_
         refine AL.rp rfl rfl (rp_field_ref Try.underlying54 rfl rfl rfl inf3 (by decide) rfl) ?_
         refine AL.rd rfl rfl (rd_load_ref Try.underlying3 rfl rfl rfl rfl rfl rfl) ?_
         refine AL.rp rfl rfl (rp_build_arr (vs := [(0, _), (1, _), (2, _)]) (zs := [.d (.p (.int .i64 0)), .d (.p (.int .i64 0)), .d (.p (.int .i64 0))]) Try.underlying84 inf3 inf84 rfl rfl rfl rfl) ?_
         refine AL.sm rfl (sm_alloc (l := [.d (.p (.int .i64 0)), .d (.p (.int .i64 0)), .d (.p (.int .i64 0))]) 15 inf84 rfl (by simp [S.clean, S.put, S.newObj, S.forget, V.has, V.hasL, junkIf, setL, V.cs, hasL_i, hasL_d, hasL_b, hasL_s, hasL_n, hasL_rep, hasL_flat, hasL_append, -List.map_set]) rfl rfl) ?_
         refine AL.st rfl (st_store_any inf84 rfl rfl rfl rfl rfl rfl rfl rfl (by first | decide | (simp; done) | (simp; omega)) rfl) ?_
         refine AL.nil ?_
         try simp only [thenS, S.put, S.newObj, setL, V.cs, List.length_cons, List.length_nil, List.take_succ_cons, List.take_zero, List.drop_succ_cons, List.drop_zero, List.drop_nil, List.nil_append, List.cons_append, List.append_nil, Nat.zero_add, Nat.reduceAdd, List.map_cons, List.map_nil, List.set_cons_zero, List.set_cons_succ]
         refine AW.seq ?_
         refine AW.region ?_
         refine AL.rp rfl rfl (rp_move rfl rfl) ?_
         refine AL.rd rfl rfl (rd_loads_ref Try.underlying84 rfl inf84 rfl rfl rfl rfl rfl rfl) ?_
         refine AL.rd rfl rfl (rd_lookup_hit (keyOk84) Try.underlying81 inf3 rfl (.inl rfl) (fun g a w hs => keyE84 (hs.ev rfl)) (by assumption)) ?_
         refine AL.rp rfl rfl (rp_move rfl rfl) ?_
         refine AL.rp rfl rfl (rp_extract rfl rfl rfl) ?_
         refine AL.rp rfl rfl (rp_extract rfl rfl rfl) ?_
         refine AL.rp rfl rfl (rp_assign rfl rfl) ?_
         refine AL.rp rfl rfl (rp_assign rfl rfl) ?_
         refine AL.nil ?_
         try simp only [thenS, S.put]
         refine AW.seq ?_
         refine AW.region ?_
         refine AL.rd rfl rfl (rd_loads_ref Try.underlying54 rfl inf54 rfl rfl rfl rfl rfl rfl) ?_
         refine AL.call (post := ?pc5) rfl (sm_call (args := [_]) ?hc5 ⟨Try.func39, rfl, rfl, rfl, rfl⟩ rfl rfl rfl rfl) ?_
         case hc5 => exact hem
         rintro _ rfl -
         try dsimp only
         refine AL.rp rfl rfl (rp_not rfl rfl) ?_
         refine AL.rp rfl rfl (rp_move rfl rfl) ?_
         refine AL.rpy rfl rfl rfl (rp_move rfl rfl) ?_
         refine AL.rpy rfl rfl rfl (rp_not rfl rfl) ?_
         refine AL.rpy rfl rfl rfl (rp_move rfl rfl) ?_
         refine AL.rpy rfl rfl rfl (rp_move rfl rfl) ?_
         refine AL.rpy rfl rfl rfl (rp_field_ref Try.underlying54 rfl rfl rfl inf3 (by decide) rfl) ?_
         refine AL.rdy rfl rfl rfl (rd_load_ref Try.underlying3 rfl rfl rfl rfl rfl rfl) ?_
         (refine AL.rpy rfl rfl rfl (rp_add rfl rfl rfl (by first | omega | (dsimp only; omega))) ?_)
         refine AL.rpy rfl rfl rfl (rp_move rfl rfl) ?_
         (refine AL.rpy rfl rfl rfl (rp_lssT rfl rfl rfl (by first | assumption | omega | (dsimp only; omega))) ?_)
         refine AL.rpy rfl rfl rfl (rp_pick rfl rfl rfl) ?_
         refine AL.rp rfl rfl (rp_pick rfl rfl rfl) ?_
         refine AL.nil ?_
         try simp only [thenS, S.put, S.newObj, setL, V.cs, List.length_cons, List.length_nil, List.take_succ_cons, List.take_zero, List.drop_succ_cons, List.drop_zero, List.drop_nil, List.nil_append, List.cons_append, List.append_nil, Nat.zero_add, Nat.reduceAdd, List.map_cons, List.map_nil, List.set_cons_zero, List.set_cons_succ]
         refine AW.condT rfl ?_
         refine AW.region ?_
         refine AL.rp rfl rfl (rp_move rfl rfl) ?_
         refine AL.rd rfl rfl (rd_loads_ref Try.underlying84 rfl inf84 rfl rfl rfl rfl rfl rfl) ?_
         refine AL.rp rfl rfl (rp_move rfl rfl) ?_
         refine AL.rp rfl rfl (rp_field_ref Try.underlying54 rfl rfl rfl inf3 (by decide) rfl) ?_
         refine AL.rd rfl rfl (rd_load_ref Try.underlying3 rfl rfl rfl rfl rfl rfl) ?_
         refine AL.rp rfl rfl (rp_add rfl rfl rfl (by first | omega | (dsimp only; omega))) ?_
         refine AL.st rfl (st_mapUpdate (keyOk84) Try.underlying81 rfl rfl (by rfl) (fun g a w hs => keyE84 (hs.ev rfl)) rfl rfl (by simp [S.put, S.newObj, setL, V.cs, V.mpsL, V.mps, D.mps, D.mpsL, D.mpsR, mpsR_ars, mpsR_sts, V.one, mpsL_stV2, mpsL_arV2, mpsR_intsE, upM_agg3p, upM_agg4p, itsL_arV2, itsL_stV2]) rfl) ?_
         simp only [S.put, List.map_cons, List.map_nil, upM_p, upM_ref, upM_own, upM_mp, upM_junk, upM_tup, upM_sl,  mpsR_ars, mpsR_sts, mpsL_stV2, mpsL_arV2, mpsR_intsE, upM_agg3p, upM_agg4p, itsL_arV2, itsL_stV2]
         refine AL.nil ?_
         try simp only [thenS, S.put, S.newObj, setL, V.cs, List.length_cons, List.length_nil, List.take_succ_cons, List.take_zero, List.drop_succ_cons, List.drop_zero, List.drop_nil, List.nil_append, List.cons_append, List.append_nil, Nat.zero_add, Nat.reduceAdd, List.map_cons, List.map_nil, List.set_cons_zero, List.set_cons_succ]
         refine AW.region ?_
         refine AL.rp rfl rfl (rp_add rfl rfl rfl (by first | omega | (dsimp only; omega))) ?_
         refine AL.rp rfl rfl (rp_move rfl rfl) ?_
         refine AL.nil ?_
         try simp only [thenS, S.put]
         refine ⟨_, ?_, ⟨j + 1, _, by omega, hs.symm, rfl⟩, ?_⟩
         ·exact (Less.of rfl (by repeat (first | exact trivial | refine ⟨⟨_, rfl, Wk.refl _⟩, ?_⟩ | refine ⟨⟨_, rfl, Wk.nil _ _⟩, ?_⟩ | refine ⟨⟨_, rfl, Wk.junk _⟩, ?_⟩)) (by repeat (first | exact trivial | refine ⟨rfl, ?_⟩)) rfl)
         ·simp [S.nat, fnd]; omega
        ·have hl : ¬ lessM M ⟨ai, ao, (d : Int) + aw, at'⟩ = true := by simp only [lessM, ky, hg, decide_eq_true_eq]; exact hv
         simp only [addM, if_neg hl] at hs
         clear hskip hadd hl
         refine AW.seq ?_
         refine AW.region ?_
         (refine AL.rp rfl rfl (rp_lssT rfl rfl rfl (by first | assumption | omega | (dsimp only; omega))) ?_)
         refine AL.nil ?_
         try simp only [thenS, S.put]
         refine AW.seq ?_
         refine AW.condT rfl ?_
         refine AW.skip ?_
         try simp only [thenS]
         refine AW.seq ?_
         refine AW.block ?_
         refine AW.seq ?_
         refine AW.region ?_
         refine AL.rp rfl rfl (rp_index_map Try.underlying48 inf54 rfl rfl rfl rfl (by assumption)) ?_
         refine AL.rd rfl rfl (rd_loads_ad Try.underlying54 rfl inf54 rfl rfl rfl rfl) ?_
         refine AL.sm rfl (sm_alloc (l := [.d (.p (.int .i64 0)), .d (.p (.int .i64 0)), .d (.p (.int .i64 0)), .d (.p (.int .i64 0))]) 14 inf54 rfl (by simp [S.clean, S.put, S.newObj, S.forget, V.has, V.hasL, junkIf, setL, V.cs, hasL_i, hasL_d, hasL_b, hasL_s, hasL_n, hasL_rep, hasL_flat, hasL_append, -List.map_set]) rfl rfl) ?_
         refine AL.st rfl (st_store_any inf54 rfl rfl rfl rfl rfl rfl rfl rfl (by first | decide | (simp; done) | (simp; omega)) rfl) ?_
         refine AL.nil ?_
         try simp only [thenS, S.put, S.newObj, setL, V.cs, List.length_cons, List.length_nil, List.take_succ_cons, List.take_zero, List.drop_succ_cons, List.drop_zero, List.drop_nil, List.nil_append, List.cons_append, List.append_nil, Nat.zero_add, Nat.reduceAdd, List.map_cons, List.map_nil, List.set_cons_zero, List.set_cons_succ]
         refine AW.seq ?_
         refine AW.region ?_
         refine AL.rp rfl rfl (rp_field_ref Try.underlying54 rfl rfl rfl inf3 (by decide) rfl) ?_
         refine AL.rd rfl rfl (rd_load_ref Try.underlying3 rfl rfl rfl rfl rfl rfl) ?_
         refine AL.rp rfl rfl (rp_field_ref Try.underlying54 rfl rfl rfl inf3 (by decide) rfl) ?_
         refine AL.rd rfl rfl (rd_load_ref Try.underlying3 rfl rfl rfl rfl rfl rfl) ?_
         refine AL.rp rfl rfl (rp_field_ref Try.underlying54 rfl rfl rfl inf3 (by decide) rfl) ?_
         refine AL.rd rfl rfl (rd_load_ref Try.underlying3 rfl rfl rfl rfl rfl rfl) ?_
         refine AL.rp rfl rfl (rp_build_arr (vs := [(0, _), (1, _), (2, _)]) (zs := [.d (.p (.int .i64 0)), .d (.p (.int .i64 0)), .d (.p (.int .i64 0))]) Try.underlying84 inf3 inf84 rfl rfl rfl rfl) ?_
         refine AL.sm rfl (sm_alloc (l := [.d (.p (.int .i64 0)), .d (.p (.int .i64 0)), .d (.p (.int .i64 0))]) 15 inf84 rfl (by simp [S.clean, S.put, S.newObj, S.forget, V.has, V.hasL, junkIf, setL, V.cs, hasL_i, hasL_d, hasL_b, hasL_s, hasL_n, hasL_rep, hasL_flat, hasL_append, -List.map_set]) rfl rfl) ?_
         refine AL.st rfl (st_store_any inf84 rfl rfl rfl rfl rfl rfl rfl rfl (by first | decide | (simp; done) | (simp; omega)) rfl) ?_
         refine AL.nil ?_
         try simp only [thenS, S.put, S.newObj, setL, V.cs, List.length_cons, List.length_nil, List.take_succ_cons, List.take_zero, List.drop_succ_cons, List.drop_zero, List.drop_nil, List.nil_append, List.cons_append, List.append_nil, Nat.zero_add, Nat.reduceAdd, List.map_cons, List.map_nil, List.set_cons_zero, List.set_cons_succ]
         refine AW.seq ?_
         refine AW.region ?_
         refine AL.rp rfl rfl (rp_move rfl rfl) ?_
         refine AL.rd rfl rfl (rd_loads_ref Try.underlying84 rfl inf84 rfl rfl rfl rfl rfl rfl) ?_
         refine AL.rd rfl rfl (rd_lookup_hit (keyOk84) Try.underlying81 inf3 rfl (.inl rfl) (fun g a w hs => keyE84 (hs.ev rfl)) (by assumption)) ?_
         refine AL.rp rfl rfl (rp_move rfl rfl) ?_
         refine AL.rp rfl rfl (rp_extract rfl rfl rfl) ?_
         refine AL.rp rfl rfl (rp_extract rfl rfl rfl) ?_
         refine AL.rp rfl rfl (rp_assign rfl rfl) ?_
         refine AL.rp rfl rfl (rp_assign rfl rfl) ?_
         refine AL.nil ?_
         try simp only [thenS, S.put]
         refine AW.seq ?_
         refine AW.region ?_
         refine AL.rd rfl rfl (rd_loads_ref Try.underlying54 rfl inf54 rfl rfl rfl rfl rfl rfl) ?_
         refine AL.call (post := ?pc6) rfl (sm_call (args := [_]) ?hc6 ⟨Try.func39, rfl, rfl, rfl, rfl⟩ rfl rfl rfl rfl) ?_
         case hc6 => exact hem
         rintro _ rfl -
         try dsimp only
         refine AL.rp rfl rfl (rp_not rfl rfl) ?_
         refine AL.rp rfl rfl (rp_move rfl rfl) ?_
         refine AL.rpy rfl rfl rfl (rp_move rfl rfl) ?_
         refine AL.rpy rfl rfl rfl (rp_not rfl rfl) ?_
         refine AL.rpy rfl rfl rfl (rp_move rfl rfl) ?_
         refine AL.rpy rfl rfl rfl (rp_move rfl rfl) ?_
         refine AL.rpy rfl rfl rfl (rp_field_ref Try.underlying54 rfl rfl rfl inf3 (by decide) rfl) ?_
         refine AL.rdy rfl rfl rfl (rd_load_ref Try.underlying3 rfl rfl rfl rfl rfl rfl) ?_
         (refine AL.rpy rfl rfl rfl (rp_add rfl rfl rfl (by first | omega | (dsimp only; omega))) ?_)
         refine AL.rpy rfl rfl rfl (rp_move rfl rfl) ?_
         (refine AL.rpy rfl rfl rfl (rp_lssF rfl rfl rfl (by first | assumption | omega | (dsimp only; omega))) ?_)
         refine AL.rpy rfl rfl rfl (rp_pick rfl rfl rfl) ?_
         refine AL.rp rfl rfl (rp_pick rfl rfl rfl) ?_
         refine AL.nil ?_
         try simp only [thenS, S.put, S.newObj, setL, V.cs, List.length_cons, List.length_nil, List.take_succ_cons, List.take_zero, List.drop_succ_cons, List.drop_zero, List.drop_nil, List.nil_append, List.cons_append, List.append_nil, Nat.zero_add, Nat.reduceAdd, List.map_cons, List.map_nil, List.set_cons_zero, List.set_cons_succ]
         refine AW.condF rfl ?_
         refine AW.skip ?_
         try simp only [thenS]
         refine AW.region ?_
         refine AL.rp rfl rfl (rp_add rfl rfl rfl (by first | omega | (dsimp only; omega))) ?_
         refine AL.rp rfl rfl (rp_move rfl rfl) ?_
         refine AL.nil ?_
         try simp only [thenS, S.put]
         refine ⟨_, ?_, ⟨j + 1, M, by omega, hs.symm, rfl⟩, ?_⟩
         ·exact (Less.of rfl (by repeat (first | exact trivial | refine ⟨⟨_, rfl, Wk.refl _⟩, ?_⟩ | refine ⟨⟨_, rfl, Wk.nil _ _⟩, ?_⟩ | refine ⟨⟨_, rfl, Wk.junk _⟩, ?_⟩)) (by repeat (first | exact trivial | refine ⟨rfl, ?_⟩)) rfl)
         ·simp [S.nat, fnd]; omega
     ·rw [List.take_of_length_le (by omega), ← hall] at hM
      refine AW.seq ?_
      refine AW.region ?_
      (refine AL.rp rfl rfl (rp_lssF rfl rfl rfl (by first | assumption | omega | (dsimp only; omega))) ?_)
      refine AL.nil ?_
      try simp only [thenS, S.put]
      refine AW.seq ?_
      refine AW.condF rfl ?_
      refine AW.exit ?_
      try simp only [thenS, inBlockS, ↓reduceIte, Nat.reduceEqDiff]
      refine AW.region ?_
      refine AL.rp rfl rfl (rp_add rfl rfl rfl (by first | omega | (dsimp only; omega))) ?_
      refine AL.rp rfl rfl (rp_move rfl rfl) ?_
      refine AL.nil ?_
      try simp only [thenS, S.put]
      refine ⟨_, ?_, ⟨p + 1, M, F', by omega, hF'.symm, hM, rfl⟩, ?_⟩
      ·exact (Less.of rfl (by repeat (first | exact trivial | refine ⟨⟨_, rfl, Wk.refl _⟩, ?_⟩ | refine ⟨⟨_, rfl, Wk.nil _ _⟩, ?_⟩ | refine ⟨⟨_, rfl, Wk.junk _⟩, ?_⟩)) (by repeat (first | exact trivial | refine ⟨rfl, ?_⟩)) rfl)
      ·simp [S.nat, fnd]; omega
   ·obtain rfl : p = n := by omega
    obtain ⟨E, hE⟩ : ∃ E, encF F = E := ⟨_, rfl⟩
    have hMp := mapM_perm (allA dF sts p)
    rw [← hM, ← hA0] at hMp
    have hMl : M.length ≤ 400 := by
     have h1 := hMp.length_eq
     have h2 := inL_len (allA dF sts p)
     have h3 := allA_400 (D := dF) (sts := sts) (k := p) (by omega) hz2
     rw [List.length_map, hA0] at h1
     omega
    have hO1 : decide (emF sts q ≠ big ∧ 1000000000 < emF sts q) = decide (1000000001 < E) := by
     rw [← hE, hF0, ← hF]
     unfold encF
     by_cases h1 : F = big
     ·simp [h1]
     ·rw [if_neg h1]
      by_cases h2 : F = 1000000001
      ·simp [h2, big]
      ·rw [if_neg h2]
       by_cases h3 : 1000000000 < F
       ·simp [h1, h3]; omega
       ·simp [h1, h3]; omega
    rw [hF0] at hO1
    rw [hO1, ← hA0] at hO0
    rw [hE]
    have hfin : E = encF (emF sts q) := by rw [← hE, hF0, ← hF]
    clear hO1 hA0 hF0 hE hF hM hbd hDle hCg
    refine AW.seq ?_
    refine AW.region ?_
    (refine AL.rp rfl rfl (rp_lssF rfl rfl rfl (by first | assumption | omega | (dsimp only; omega))) ?_)
    refine AL.nil ?_
    try simp only [thenS, S.put]
    refine AW.seq ?_
    refine AW.condF rfl ?_
    refine AW.exit ?_
    try simp only [thenS, inBlockS, ↓reduceIte, Nat.reduceEqDiff]
    refine AW.seqc (fun s' => ∃ B : Bool, B = (O || decide (1000000001 < E)) ∧ s' = ⟨175, [(1, .ref 1 0), (2, .ref 2 0), (5, .ref 5 0), (6, .b B), (8, .mp 35 w0.heap.size (mrows encK3 M)), (9, .ref 9 0), (31, .i p), (32, .i q)], [(1, ⟨24, [.i st, .d (stsD sts)], false, 0⟩), (2, ⟨24, [.i 0, .nil], false, 0⟩), (5, ⟨24, [.i st, .own 901 2 q (decide (q = 0))], false, 0⟩), (901, ⟨50, P.flatMap stV2, decide (q = 0), 2⟩), (9, ⟨50, [.i E, .own 902 4 0 true], false, 0⟩), (902, ⟨54, [], true, 4⟩)], []⟩) ?_ ?_
    ·skip
     cases O with
     | true =>
      refine AW.region ?_
      refine AL.rp rfl rfl (rp_move rfl rfl) ?_
      refine AL.rp rfl rfl (rp_move rfl rfl) ?_
      refine AL.noV rfl rfl rfl rfl ?_
      refine AL.noV rfl rfl rfl rfl ?_
      refine AL.noV rfl rfl rfl rfl ?_
      refine AL.rp rfl rfl (rp_pick rfl rfl rfl) ?_
      refine AL.rp rfl rfl (rp_assign rfl rfl) ?_
      refine AL.nil ?_
      try simp only [thenS, S.put]
      refine ⟨_, ?_, true, by simp, rfl⟩
      exact (Less.of rfl (by repeat (first | exact trivial | refine ⟨⟨_, rfl, Wk.refl _⟩, ?_⟩ | refine ⟨⟨_, rfl, Wk.nil _ _⟩, ?_⟩ | refine ⟨⟨_, rfl, Wk.junk _⟩, ?_⟩)) (by repeat (first | exact trivial | refine ⟨rfl, ?_⟩)) rfl)
     | false =>
      by_cases hE1 : 1000000001 < E
      ·skip
       refine AW.region ?_
       refine AL.rp rfl rfl (rp_move rfl rfl) ?_
       refine AL.rp rfl rfl (rp_move rfl rfl) ?_
       refine AL.rpy rfl rfl rfl (rp_field_ref Try.underlying50 rfl rfl rfl inf3 (by decide) rfl) ?_
       refine AL.rdy rfl rfl rfl (rd_load_ref Try.underlying3 rfl rfl rfl rfl rfl rfl) ?_
       (refine AL.rpy rfl rfl rfl (rp_gtrT rfl rfl rfl (by first | assumption | omega | (dsimp only; omega))) ?_)
       refine AL.rp rfl rfl (rp_pick rfl rfl rfl) ?_
       refine AL.rp rfl rfl (rp_assign rfl rfl) ?_
       refine AL.nil ?_
       try simp only [thenS, S.put]
       refine ⟨_, ?_, true, by simp [hE1], rfl⟩
       exact (Less.of rfl (by repeat (first | exact trivial | refine ⟨⟨_, rfl, Wk.refl _⟩, ?_⟩ | refine ⟨⟨_, rfl, Wk.nil _ _⟩, ?_⟩ | refine ⟨⟨_, rfl, Wk.junk _⟩, ?_⟩)) (by repeat (first | exact trivial | refine ⟨rfl, ?_⟩)) rfl)
      ·skip
       refine AW.region ?_
       refine AL.rp rfl rfl (rp_move rfl rfl) ?_
       refine AL.rp rfl rfl (rp_move rfl rfl) ?_
       refine AL.rpy rfl rfl rfl (rp_field_ref Try.underlying50 rfl rfl rfl inf3 (by decide) rfl) ?_
       refine AL.rdy rfl rfl rfl (rd_load_ref Try.underlying3 rfl rfl rfl rfl rfl rfl) ?_
       (refine AL.rpy rfl rfl rfl (rp_gtrF rfl rfl rfl (by first | assumption | omega | (dsimp only; omega))) ?_)
       refine AL.rp rfl rfl (rp_pick rfl rfl rfl) ?_
       refine AL.rp rfl rfl (rp_assign rfl rfl) ?_
       refine AL.nil ?_
       try simp only [thenS, S.put]
       refine ⟨_, ?_, false, by simp [hE1], rfl⟩
       exact (Less.of rfl (by repeat (first | exact trivial | refine ⟨⟨_, rfl, Wk.refl _⟩, ?_⟩ | refine ⟨⟨_, rfl, Wk.nil _ _⟩, ?_⟩ | refine ⟨⟨_, rfl, Wk.junk _⟩, ?_⟩)) (by repeat (first | exact trivial | refine ⟨rfl, ?_⟩)) rfl)
    rintro s' ⟨B1, hB1, rfl⟩
    rw [← Bool.or_assoc, ← hB1] at hO0
    refine AW.seq ?_
    refine AW.seq ?_
    refine AW.region ?_
    refine AL.rp rfl rfl (rp_move rfl rfl) ?_
    refine AL.sm rfl (sm_rangeM 134 Try.underlying81 rfl rfl (by simp [S.clean, S.put, S.newObj, S.forget, V.has, V.hasL, junkIf, setL, V.cs, hasL_i, hasL_d, hasL_b, hasL_s, hasL_n, hasL_rep, hasL_flat, hasL_append, -List.map_set]) rfl) ?_
    refine AL.nil ?_
    try simp only [thenS, S.put, S.newObj, setL, V.cs, List.length_cons, List.length_nil, List.take_succ_cons, List.take_zero, List.drop_succ_cons, List.drop_zero, List.drop_nil, List.nil_append, List.cons_append, List.append_nil, Nat.zero_add, Nat.reduceAdd, List.map_cons, List.map_nil, List.set_cons_zero, List.set_cons_succ]
    refine AW.block ?_
    refine AW.loopN (fun μ s' => ∃ (seen : List Nat) (A : List Ar) (la : Nat) (B : Bool), μ + la = M.length ∧ seen.length = la ∧ seen.Nodup ∧ (∀ j ∈ seen, j < M.length) ∧ A = (seen.map fun j => toA (M.getD j ((0, 0, 0), 0))) ∧ A.length = la ∧ B = (B1 || A.any ovA) ∧ s' = ⟨175, [(1, .ref 1 0), (2, .ref 2 0), (5, .ref 5 0), (6, .b B), (9, .ref 9 0), (31, .i p), (32, .i q), (134, .mit 134 35 w0.heap.size (mrows encK3 M) seen)], [(1, ⟨24, [.i st, .d (stsD sts)], false, 0⟩), (2, ⟨24, [.i 0, .nil], false, 0⟩), (5, ⟨24, [.i st, .own 901 2 q (decide (q = 0))], false, 0⟩), (901, ⟨50, P.flatMap stV2, decide (q = 0), 2⟩), (9, ⟨50, [.i E, .own 902 4 la (decide (la = 0))], false, 0⟩), (902, ⟨54, A.flatMap arV2, decide (la = 0), 4⟩)], []⟩) ⟨M.length, _, ?_, [], [], 0, B1, rfl, rfl, List.nodup_nil, (by simp), rfl, rfl, (by simp), rfl⟩ ?_
    ·exact (Less.of rfl (by repeat (first | exact trivial | refine ⟨⟨_, rfl, Wk.refl _⟩, ?_⟩ | refine ⟨⟨_, rfl, Wk.nil _ _⟩, ?_⟩ | refine ⟨⟨_, rfl, Wk.junk _⟩, ?_⟩)) (by repeat (first | exact trivial | refine ⟨rfl, ?_⟩)) rfl)
    rintro μ s' ⟨seen, A, la, B, hμ, hsl, hnd, hsj, hA, hAl, hB, rfl⟩
    have hfl : (A.flatMap arV2).length = la * 4 := by rw [flat_len (sz := 4) (fun _ => rfl), hAl]
    by_cases hall : ∀ j, j < (mrows encK3 M).length → j ∈ seen
    ·have hAp : A.Perm (emA sts q) := by
      rw [hA]
      exact (seen_map toA _ M hnd hsj fun j hj => hall j (by simpa [mrows] using hj)).trans hMp
     have hBO : B = emV sts (q + 1) := by rw [hO0, hB, perm_any hAp]
     have hla4 : la ≤ 400 := by omega
     refine AW.seq ?_
     refine AW.region ?_
     refine AL.rd rfl rfl (rd_nextEndM rfl rfl (by assumption)) ?_
     refine AL.rp rfl rfl (rp_extract rfl rfl rfl) ?_
     refine AL.nil ?_
     try simp only [thenS, S.put]
     refine AW.seq ?_
     refine AW.condF rfl ?_
     refine AW.exit ?_
     try simp only [thenS, inBlockS, ↓reduceIte, Nat.reduceEqDiff]
     refine AW.freezeH 9 1 32 (A.map arD) rfl rfl rfl (by decide) rfl rfl (by rw [List.length_map, hAl]) (by omega) (rowsF (enc := arD) (sz := 4) (l := A) (fun _ => rfl) rfl) ?_
     refine AW.region ?_
     refine AL.rp rfl rfl (rp_field_ref Try.underlying24 rfl rfl rfl inf22 (by decide) rfl) ?_
     refine AL.rd rfl rfl (rd_load_ref Try.underlying22 rfl rfl rfl rfl rfl rfl) ?_
     refine AL.rd rfl rfl (rd_loads_ref Try.underlying50 rfl inf50 rfl rfl rfl rfl rfl rfl) ?_
     refine AL.sm rfl (sm_slice (vs := [(0, _)]) (zs := [.d (.p (.int .i64 0)), .d (.p (.slice none 0 0))]) 161 Try.underlying22 inf50 rfl rfl (by decide) (by decide) (by decide) rfl rfl rfl rfl (by simp [S.clean, S.put, S.newObj, S.forget, V.has, V.hasL, junkIf, setL, V.cs, hasL_i, hasL_d, hasL_b, hasL_s, hasL_n, hasL_rep, hasL_flat, hasL_append, -List.map_set]) rfl rfl) ?_
     refine AL.st rfl (st_appendF Try.underlying22 inf50 rfl (by decide) rfl rfl rfl rfl rfl rfl (by first | assumption | rfl | (simp; done)) (by simp [S.clean, S.put, S.newObj, S.forget, V.has, V.hasL, junkIf, setL, V.cs, hasL_i, hasL_d, hasL_b, hasL_s, hasL_n, hasL_rep, hasL_flat, hasL_append, -List.map_set]) rfl rfl rfl rfl rfl rfl rfl (by decide) (by omega) (by omega) rfl) ?_
     simp only [S.forget, S.put, S.newObj, junkIf, V.has, V.hasL, hasL_i, hasL_b, hasL_s, hasL_d, hasL_n, hasL_rep, hasL_flat, hasL_append, List.map_cons, List.map_nil, List.filter_cons, List.filter_nil, Nat.reduceBNe, Nat.reduceBEq, eq_self, bne_self_eq_false,  Bool.not_true, Bool.not_false, Bool.or_false, Bool.or_true, Bool.false_or, Bool.true_or, if_true, if_false, Bool.false_eq_true, ite_true, ite_false, ↓reduceIte, beq_self_eq_true, Nat.reduceEqDiff]
     refine AL.rp rfl rfl (rp_field_ref Try.underlying24 rfl rfl rfl inf22 (by decide) rfl) ?_
     (refine AL.st rfl (st_store inf22 rfl rfl rfl rfl rfl rfl rfl (by first | decide | (simp; done)) rfl) ?_)
     refine AL.nil ?_
     try simp only [thenS, S.put, S.newObj, setL, V.cs, List.length_cons, List.length_nil, List.take_succ_cons, List.take_zero, List.drop_succ_cons, List.drop_zero, List.drop_nil, List.nil_append, List.cons_append, List.append_nil, Nat.zero_add, Nat.reduceAdd, List.map_cons, List.map_nil, List.set_cons_zero, List.set_cons_succ]
     refine AW.region ?_
     refine AL.rp rfl rfl (rp_add rfl rfl rfl (by first | omega | (dsimp only; omega))) ?_
     refine AL.rp rfl rfl (rp_move rfl rfl) ?_
     refine AL.nil ?_
     try simp only [thenS, S.put]
     refine ⟨_, ?_, ⟨q + 1, P ++ [⟨E, A⟩], B, by omega, by simp [hPl], fun i x hi => ?_, hBO, rfl⟩, ?_⟩
     ·simp only [List.flatMap_append, List.flatMap_cons, List.flatMap_nil, List.append_nil]
      exact (Less.of rfl (by repeat (first | exact trivial | refine ⟨⟨_, rfl, Wk.refl _⟩, ?_⟩ | refine ⟨⟨_, rfl, Wk.nil _ _⟩, ?_⟩ | refine ⟨⟨_, rfl, Wk.junk _⟩, ?_⟩)) (by repeat (first | exact trivial | refine ⟨rfl, ?_⟩)) rfl)
     ·by_cases hiq : i < q
      ·rw [List.getElem?_append_left (by omega)] at hi
       exact hP i x hi
      ·rw [List.getElem?_append_right (by omega)] at hi
       cases hi2 : i - P.length with
       | succ k => rw [hi2] at hi; simp at hi
       | zero =>
        rw [hi2] at hi
        simp only [List.getElem?_cons_zero, Option.some.injEq] at hi
        subst hi
        obtain rfl : i = q := by omega
        exact ⟨hfin, hAp⟩
     ·simp [S.nat, fnd]; omega
    ·skip
     refine AW.seq ?_
     refine AW.region ?_
     (refine AL.nextN rfl rfl rfl rfl (by (simp [S.put, S.newObj, setL, V.cs, V.itsL, V.its, mpsL_stV2, mpsL_arV2, mpsR_intsE, upM_agg3p, upM_agg4p, itsL_arV2, itsL_stV2]; done)) rfl rfl rfl (by assumption) (fun j kv hj hns => ?_); simp only [S.put, List.map_cons, List.map_nil, upMI_d, upMI_ref, upMI_own, upMI_mp, upMI_junk, upMI_mit, upMI_tup2])
     refine AL.rp rfl rfl (rp_extract rfl rfl rfl) ?_
     refine AL.nil ?_
     try simp only [thenS, S.put]
     refine AW.seq ?_
     refine AW.condT rfl ?_
     refine AW.skip ?_
     try simp only [thenS]
     refine AW.block ?_
     refine AW.seq ?_
     obtain ⟨⟨⟨k1, k2, k3⟩, v⟩, hMj, rfl⟩ : ∃ y, M[j]? = some y ∧ (encK3 y.1, Value.int .i64 y.2) = kv := by
      simp only [mrows, List.getElem?_map] at hj
      cases hMj : M[j]? with
      | none => rw [hMj] at hj; cases hj
      | some y => rw [hMj] at hj; exact ⟨y, rfl, Option.some.inj hj⟩
     have hjM : j < M.length := (List.getElem?_eq_some_iff.1 hMj).1
     have hnd2 : (seen ++ [j]).Nodup := by
      rw [List.nodup_append]
      exact ⟨hnd, by simp, fun a ha b hb => by simp at hb; subst hb; rintro rfl; exact hns ha⟩
     have hsj2 : ∀ i ∈ seen ++ [j], i < M.length := fun i hi => by
      rcases List.mem_append.1 hi with hi | hi
      ·exact hsj i hi
      ·simp only [List.mem_singleton] at hi; subst hi; exact hjM
     have hlen2 := nodup_len hnd2 hsj2
     simp only [List.length_append, List.length_cons, List.length_nil, hsl] at hlen2
     have hA2 : A ++ [⟨k1, k2, v, k3⟩] = (seen ++ [j]).map fun j => toA (M.getD j ((0, 0, 0), 0)) := by
      rw [List.map_append, ← hA]
      simp [List.getD_eq_getElem?_getD, hMj, toA]
     have hla4 : la < 400 := by omega
     have hany : (B1 || (A ++ [(⟨k1, k2, v, k3⟩ : Ar)]).any ovA) = (B || decide (1000000000 < v)) := by
      rw [List.any_append, ← Bool.or_assoc, ← hB]; simp [ovA]
     clear hall hB
     cases B with
     | true =>
      refine AW.region ?_
      refine AL.rd rfl rfl (rd_entryM (vk := .agg [.i k1, .i k2, .i k3]) (vv := .i v) rfl rfl hj (fun _ _ _ => rep_K3 (k1, k2, k3)) (fun _ _ _ => .d _ _ (.p _))) ?_
      refine AL.rp rfl rfl (rp_extract rfl rfl rfl) ?_
      refine AL.rp rfl rfl (rp_extract rfl rfl rfl) ?_
      refine AL.sm rfl (sm_alloc (l := [.d (.p (.int .i64 0)), .d (.p (.int .i64 0)), .d (.p (.int .i64 0))]) 18 inf84 rfl (by simp [S.clean, S.put, S.newObj, S.forget, V.has, V.hasL, junkIf, setL, V.cs, hasL_i, hasL_d, hasL_b, hasL_s, hasL_n, hasL_rep, hasL_flat, hasL_append, -List.map_set]) rfl rfl) ?_
      refine AL.st rfl (st_store_any inf84 rfl rfl rfl rfl rfl rfl rfl rfl (by first | decide | (simp; done) | (simp; omega)) rfl) ?_
      refine AL.rp rfl rfl (rp_assign rfl rfl) ?_
      refine AL.nil ?_
      try simp only [thenS, S.put, S.newObj, setL, V.cs, List.length_cons, List.length_nil, List.take_succ_cons, List.take_zero, List.drop_succ_cons, List.drop_zero, List.drop_nil, List.nil_append, List.cons_append, List.append_nil, Nat.zero_add, Nat.reduceAdd, List.map_cons, List.map_nil, List.set_cons_zero, List.set_cons_succ]
      refine AW.seq ?_
      refine AW.region ?_
      refine AL.rp rfl rfl (rp_field_ref Try.underlying50 rfl rfl rfl inf48 (by decide) rfl) ?_
      refine AL.rd rfl rfl (rd_load_ref Try.underlying48 rfl rfl rfl rfl rfl rfl) ?_
      refine AL.rp rfl rfl (rp_indexA (k := _) Try.underlying84 inf3 rfl rfl rfl rfl (by first | decide | omega) (by decide)) ?_
      refine AL.rd rfl rfl (rd_load_ref Try.underlying3 rfl rfl rfl rfl rfl rfl) ?_
      refine AL.rp rfl rfl (rp_indexA (k := _) Try.underlying84 inf3 rfl rfl rfl rfl (by first | decide | omega) (by decide)) ?_
      refine AL.rd rfl rfl (rd_load_ref Try.underlying3 rfl rfl rfl rfl rfl rfl) ?_
      refine AL.rp rfl rfl (rp_indexA (k := _) Try.underlying84 inf3 rfl rfl rfl rfl (by first | decide | omega) (by decide)) ?_
      refine AL.rd rfl rfl (rd_load_ref Try.underlying3 rfl rfl rfl rfl rfl rfl) ?_
      refine AL.rp rfl rfl (rp_move rfl rfl) ?_
      refine AL.rp rfl rfl (rp_build (vs := [(0, _), (1, _), (3, _), (2, _)]) (zs := [.d (.p (.int .i64 0)), .d (.p (.int .i64 0)), .d (.p (.int .i64 0)), .d (.p (.int .i64 0))]) pl54 inf54 rfl rfl rfl rfl) ?_
      refine AL.sm rfl (sm_slice (vs := [(0, _)]) (zs := [.d (.p (.int .i64 0)), .d (.p (.int .i64 0)), .d (.p (.int .i64 0)), .d (.p (.int .i64 0))]) 150 Try.underlying48 inf54 rfl rfl (by decide) (by decide) (by decide) rfl rfl rfl rfl (by simp [S.clean, S.put, S.newObj, S.forget, V.has, V.hasL, junkIf, setL, V.cs, hasL_i, hasL_d, hasL_b, hasL_s, hasL_n, hasL_rep, hasL_flat, hasL_append, -List.map_set]) rfl rfl) ?_
      refine AL.st rfl (st_appendF Try.underlying48 inf54 rfl (by decide) rfl rfl rfl rfl rfl rfl (by first | assumption | rfl | (simp; done)) (by simp [S.clean, S.put, S.newObj, S.forget, V.has, V.hasL, junkIf, setL, V.cs, hasL_i, hasL_d, hasL_b, hasL_s, hasL_n, hasL_rep, hasL_flat, hasL_append, -List.map_set]) rfl rfl rfl rfl rfl rfl rfl (by decide) (by omega) (by omega) rfl) ?_
      simp only [S.forget, S.put, S.newObj, junkIf, V.has, V.hasL, hasL_i, hasL_b, hasL_s, hasL_d, hasL_n, hasL_rep, hasL_flat, hasL_append, List.map_cons, List.map_nil, List.filter_cons, List.filter_nil, Nat.reduceBNe, Nat.reduceBEq, eq_self, bne_self_eq_false,  Bool.not_true, Bool.not_false, Bool.or_false, Bool.or_true, Bool.false_or, Bool.true_or, if_true, if_false, Bool.false_eq_true, ite_true, ite_false, ↓reduceIte, beq_self_eq_true, Nat.reduceEqDiff]
      refine AL.rp rfl rfl (rp_field_ref Try.underlying50 rfl rfl rfl inf48 (by decide) rfl) ?_
      (refine AL.st rfl (st_store inf48 rfl rfl rfl rfl rfl rfl rfl (by first | decide | (simp; done)) rfl) ?_)
      refine AL.nil ?_
      try simp only [thenS, S.put, S.newObj, setL, V.cs, List.length_cons, List.length_nil, List.take_succ_cons, List.take_zero, List.drop_succ_cons, List.drop_zero, List.drop_nil, List.nil_append, List.cons_append, List.append_nil, Nat.zero_add, Nat.reduceAdd, List.map_cons, List.map_nil, List.set_cons_zero, List.set_cons_succ]
      refine AW.region ?_
      refine AL.rp rfl rfl (rp_move rfl rfl) ?_
      refine AL.rp rfl rfl (rp_move rfl rfl) ?_
      refine AL.noV rfl rfl rfl rfl ?_
      refine AL.noV rfl rfl rfl rfl ?_
      refine AL.rp rfl rfl (rp_pick rfl rfl rfl) ?_
      refine AL.rp rfl rfl (rp_assign rfl rfl) ?_
      refine AL.nil ?_
      try simp only [thenS, S.put]
      refine ⟨μ - 1, _, ?_, ⟨seen ++ [j], A ++ [⟨k1, k2, v, k3⟩], la + 1, true, by omega, by simp [hsl], hnd2, hsj2, hA2, by simp [hAl], by rw [hany]; simp, rfl⟩, by omega⟩
      simp only [List.flatMap_append, List.flatMap_cons, List.flatMap_nil, List.append_nil]
      exact (Less.of rfl (by repeat (first | exact trivial | refine ⟨⟨_, rfl, Wk.refl _⟩, ?_⟩ | refine ⟨⟨_, rfl, Wk.nil _ _⟩, ?_⟩ | refine ⟨⟨_, rfl, Wk.junk _⟩, ?_⟩)) (by repeat (first | exact trivial | refine ⟨rfl, ?_⟩)) rfl)
     | false =>
      by_cases hv : 1000000000 < v
      ·skip
       refine AW.region ?_
       refine AL.rd rfl rfl (rd_entryM (vk := .agg [.i k1, .i k2, .i k3]) (vv := .i v) rfl rfl hj (fun _ _ _ => rep_K3 (k1, k2, k3)) (fun _ _ _ => .d _ _ (.p _))) ?_
       refine AL.rp rfl rfl (rp_extract rfl rfl rfl) ?_
       refine AL.rp rfl rfl (rp_extract rfl rfl rfl) ?_
       refine AL.sm rfl (sm_alloc (l := [.d (.p (.int .i64 0)), .d (.p (.int .i64 0)), .d (.p (.int .i64 0))]) 18 inf84 rfl (by simp [S.clean, S.put, S.newObj, S.forget, V.has, V.hasL, junkIf, setL, V.cs, hasL_i, hasL_d, hasL_b, hasL_s, hasL_n, hasL_rep, hasL_flat, hasL_append, -List.map_set]) rfl rfl) ?_
       refine AL.st rfl (st_store_any inf84 rfl rfl rfl rfl rfl rfl rfl rfl (by first | decide | (simp; done) | (simp; omega)) rfl) ?_
       refine AL.rp rfl rfl (rp_assign rfl rfl) ?_
       refine AL.nil ?_
       try simp only [thenS, S.put, S.newObj, setL, V.cs, List.length_cons, List.length_nil, List.take_succ_cons, List.take_zero, List.drop_succ_cons, List.drop_zero, List.drop_nil, List.nil_append, List.cons_append, List.append_nil, Nat.zero_add, Nat.reduceAdd, List.map_cons, List.map_nil, List.set_cons_zero, List.set_cons_succ]
       refine AW.seq ?_
       refine AW.region ?_
       refine AL.rp rfl rfl (rp_field_ref Try.underlying50 rfl rfl rfl inf48 (by decide) rfl) ?_
       refine AL.rd rfl rfl (rd_load_ref Try.underlying48 rfl rfl rfl rfl rfl rfl) ?_
       refine AL.rp rfl rfl (rp_indexA (k := _) Try.underlying84 inf3 rfl rfl rfl rfl (by first | decide | omega) (by decide)) ?_
       refine AL.rd rfl rfl (rd_load_ref Try.underlying3 rfl rfl rfl rfl rfl rfl) ?_
       refine AL.rp rfl rfl (rp_indexA (k := _) Try.underlying84 inf3 rfl rfl rfl rfl (by first | decide | omega) (by decide)) ?_
       refine AL.rd rfl rfl (rd_load_ref Try.underlying3 rfl rfl rfl rfl rfl rfl) ?_
       refine AL.rp rfl rfl (rp_indexA (k := _) Try.underlying84 inf3 rfl rfl rfl rfl (by first | decide | omega) (by decide)) ?_
       refine AL.rd rfl rfl (rd_load_ref Try.underlying3 rfl rfl rfl rfl rfl rfl) ?_
       refine AL.rp rfl rfl (rp_move rfl rfl) ?_
       refine AL.rp rfl rfl (rp_build (vs := [(0, _), (1, _), (3, _), (2, _)]) (zs := [.d (.p (.int .i64 0)), .d (.p (.int .i64 0)), .d (.p (.int .i64 0)), .d (.p (.int .i64 0))]) pl54 inf54 rfl rfl rfl rfl) ?_
       refine AL.sm rfl (sm_slice (vs := [(0, _)]) (zs := [.d (.p (.int .i64 0)), .d (.p (.int .i64 0)), .d (.p (.int .i64 0)), .d (.p (.int .i64 0))]) 150 Try.underlying48 inf54 rfl rfl (by decide) (by decide) (by decide) rfl rfl rfl rfl (by simp [S.clean, S.put, S.newObj, S.forget, V.has, V.hasL, junkIf, setL, V.cs, hasL_i, hasL_d, hasL_b, hasL_s, hasL_n, hasL_rep, hasL_flat, hasL_append, -List.map_set]) rfl rfl) ?_
       refine AL.st rfl (st_appendF Try.underlying48 inf54 rfl (by decide) rfl rfl rfl rfl rfl rfl (by first | assumption | rfl | (simp; done)) (by simp [S.clean, S.put, S.newObj, S.forget, V.has, V.hasL, junkIf, setL, V.cs, hasL_i, hasL_d, hasL_b, hasL_s, hasL_n, hasL_rep, hasL_flat, hasL_append, -List.map_set]) rfl rfl rfl rfl rfl rfl rfl (by decide) (by omega) (by omega) rfl) ?_
       simp only [S.forget, S.put, S.newObj, junkIf, V.has, V.hasL, hasL_i, hasL_b, hasL_s, hasL_d, hasL_n, hasL_rep, hasL_flat, hasL_append, List.map_cons, List.map_nil, List.filter_cons, List.filter_nil, Nat.reduceBNe, Nat.reduceBEq, eq_self, bne_self_eq_false,  Bool.not_true, Bool.not_false, Bool.or_false, Bool.or_true, Bool.false_or, Bool.true_or, if_true, if_false, Bool.false_eq_true, ite_true, ite_false, ↓reduceIte, beq_self_eq_true, Nat.reduceEqDiff]
       refine AL.rp rfl rfl (rp_field_ref Try.underlying50 rfl rfl rfl inf48 (by decide) rfl) ?_
       (refine AL.st rfl (st_store inf48 rfl rfl rfl rfl rfl rfl rfl (by first | decide | (simp; done)) rfl) ?_)
       refine AL.nil ?_
       try simp only [thenS, S.put, S.newObj, setL, V.cs, List.length_cons, List.length_nil, List.take_succ_cons, List.take_zero, List.drop_succ_cons, List.drop_zero, List.drop_nil, List.nil_append, List.cons_append, List.append_nil, Nat.zero_add, Nat.reduceAdd, List.map_cons, List.map_nil, List.set_cons_zero, List.set_cons_succ]
       refine AW.region ?_
       refine AL.rp rfl rfl (rp_move rfl rfl) ?_
       refine AL.rp rfl rfl (rp_move rfl rfl) ?_
       refine AL.rpy rfl rfl rfl (rp_move rfl rfl) ?_
       (refine AL.rpy rfl rfl rfl (rp_gtrT rfl rfl rfl (by first | assumption | omega | (dsimp only; omega))) ?_)
       refine AL.rp rfl rfl (rp_pick rfl rfl rfl) ?_
       refine AL.rp rfl rfl (rp_assign rfl rfl) ?_
       refine AL.nil ?_
       try simp only [thenS, S.put]
       refine ⟨μ - 1, _, ?_, ⟨seen ++ [j], A ++ [⟨k1, k2, v, k3⟩], la + 1, true, by omega, by simp [hsl], hnd2, hsj2, hA2, by simp [hAl], by rw [hany]; simp [hv], rfl⟩, by omega⟩
       simp only [List.flatMap_append, List.flatMap_cons, List.flatMap_nil, List.append_nil]
       exact (Less.of rfl (by repeat (first | exact trivial | refine ⟨⟨_, rfl, Wk.refl _⟩, ?_⟩ | refine ⟨⟨_, rfl, Wk.nil _ _⟩, ?_⟩ | refine ⟨⟨_, rfl, Wk.junk _⟩, ?_⟩)) (by repeat (first | exact trivial | refine ⟨rfl, ?_⟩)) rfl)
      ·skip
       refine AW.region ?_
       refine AL.rd rfl rfl (rd_entryM (vk := .agg [.i k1, .i k2, .i k3]) (vv := .i v) rfl rfl hj (fun _ _ _ => rep_K3 (k1, k2, k3)) (fun _ _ _ => .d _ _ (.p _))) ?_
       refine AL.rp rfl rfl (rp_extract rfl rfl rfl) ?_
       refine AL.rp rfl rfl (rp_extract rfl rfl rfl) ?_
       refine AL.sm rfl (sm_alloc (l := [.d (.p (.int .i64 0)), .d (.p (.int .i64 0)), .d (.p (.int .i64 0))]) 18 inf84 rfl (by simp [S.clean, S.put, S.newObj, S.forget, V.has, V.hasL, junkIf, setL, V.cs, hasL_i, hasL_d, hasL_b, hasL_s, hasL_n, hasL_rep, hasL_flat, hasL_append, -List.map_set]) rfl rfl) ?_
       refine AL.st rfl (st_store_any inf84 rfl rfl rfl rfl rfl rfl rfl rfl (by first | decide | (simp; done) | (simp; omega)) rfl) ?_
       refine AL.rp rfl rfl (rp_assign rfl rfl) ?_
       refine AL.nil ?_
       try simp only [thenS, S.put, S.newObj, setL, V.cs, List.length_cons, List.length_nil, List.take_succ_cons, List.take_zero, List.drop_succ_cons, List.drop_zero, List.drop_nil, List.nil_append, List.cons_append, List.append_nil, Nat.zero_add, Nat.reduceAdd, List.map_cons, List.map_nil, List.set_cons_zero, List.set_cons_succ]
       refine AW.seq ?_
       refine AW.region ?_
       refine AL.rp rfl rfl (rp_field_ref Try.underlying50 rfl rfl rfl inf48 (by decide) rfl) ?_
       refine AL.rd rfl rfl (rd_load_ref Try.underlying48 rfl rfl rfl rfl rfl rfl) ?_
       refine AL.rp rfl rfl (rp_indexA (k := _) Try.underlying84 inf3 rfl rfl rfl rfl (by first | decide | omega) (by decide)) ?_
       refine AL.rd rfl rfl (rd_load_ref Try.underlying3 rfl rfl rfl rfl rfl rfl) ?_
       refine AL.rp rfl rfl (rp_indexA (k := _) Try.underlying84 inf3 rfl rfl rfl rfl (by first | decide | omega) (by decide)) ?_
       refine AL.rd rfl rfl (rd_load_ref Try.underlying3 rfl rfl rfl rfl rfl rfl) ?_
       refine AL.rp rfl rfl (rp_indexA (k := _) Try.underlying84 inf3 rfl rfl rfl rfl (by first | decide | omega) (by decide)) ?_
       refine AL.rd rfl rfl (rd_load_ref Try.underlying3 rfl rfl rfl rfl rfl rfl) ?_
       refine AL.rp rfl rfl (rp_move rfl rfl) ?_
       refine AL.rp rfl rfl (rp_build (vs := [(0, _), (1, _), (3, _), (2, _)]) (zs := [.d (.p (.int .i64 0)), .d (.p (.int .i64 0)), .d (.p (.int .i64 0)), .d (.p (.int .i64 0))]) pl54 inf54 rfl rfl rfl rfl) ?_
       refine AL.sm rfl (sm_slice (vs := [(0, _)]) (zs := [.d (.p (.int .i64 0)), .d (.p (.int .i64 0)), .d (.p (.int .i64 0)), .d (.p (.int .i64 0))]) 150 Try.underlying48 inf54 rfl rfl (by decide) (by decide) (by decide) rfl rfl rfl rfl (by simp [S.clean, S.put, S.newObj, S.forget, V.has, V.hasL, junkIf, setL, V.cs, hasL_i, hasL_d, hasL_b, hasL_s, hasL_n, hasL_rep, hasL_flat, hasL_append, -List.map_set]) rfl rfl) ?_
       refine AL.st rfl (st_appendF Try.underlying48 inf54 rfl (by decide) rfl rfl rfl rfl rfl rfl (by first | assumption | rfl | (simp; done)) (by simp [S.clean, S.put, S.newObj, S.forget, V.has, V.hasL, junkIf, setL, V.cs, hasL_i, hasL_d, hasL_b, hasL_s, hasL_n, hasL_rep, hasL_flat, hasL_append, -List.map_set]) rfl rfl rfl rfl rfl rfl rfl (by decide) (by omega) (by omega) rfl) ?_
       simp only [S.forget, S.put, S.newObj, junkIf, V.has, V.hasL, hasL_i, hasL_b, hasL_s, hasL_d, hasL_n, hasL_rep, hasL_flat, hasL_append, List.map_cons, List.map_nil, List.filter_cons, List.filter_nil, Nat.reduceBNe, Nat.reduceBEq, eq_self, bne_self_eq_false,  Bool.not_true, Bool.not_false, Bool.or_false, Bool.or_true, Bool.false_or, Bool.true_or, if_true, if_false, Bool.false_eq_true, ite_true, ite_false, ↓reduceIte, beq_self_eq_true, Nat.reduceEqDiff]
       refine AL.rp rfl rfl (rp_field_ref Try.underlying50 rfl rfl rfl inf48 (by decide) rfl) ?_
       (refine AL.st rfl (st_store inf48 rfl rfl rfl rfl rfl rfl rfl (by first | decide | (simp; done)) rfl) ?_)
       refine AL.nil ?_
       try simp only [thenS, S.put, S.newObj, setL, V.cs, List.length_cons, List.length_nil, List.take_succ_cons, List.take_zero, List.drop_succ_cons, List.drop_zero, List.drop_nil, List.nil_append, List.cons_append, List.append_nil, Nat.zero_add, Nat.reduceAdd, List.map_cons, List.map_nil, List.set_cons_zero, List.set_cons_succ]
       refine AW.region ?_
       refine AL.rp rfl rfl (rp_move rfl rfl) ?_
       refine AL.rp rfl rfl (rp_move rfl rfl) ?_
       refine AL.rpy rfl rfl rfl (rp_move rfl rfl) ?_
       (refine AL.rpy rfl rfl rfl (rp_gtrF rfl rfl rfl (by first | assumption | omega | (dsimp only; omega))) ?_)
       refine AL.rp rfl rfl (rp_pick rfl rfl rfl) ?_
       refine AL.rp rfl rfl (rp_assign rfl rfl) ?_
       refine AL.nil ?_
       try simp only [thenS, S.put]
       refine ⟨μ - 1, _, ?_, ⟨seen ++ [j], A ++ [⟨k1, k2, v, k3⟩], la + 1, false, by omega, by simp [hsl], hnd2, hsj2, hA2, by simp [hAl], by rw [hany]; simp [hv], rfl⟩, by omega⟩
       simp only [List.flatMap_append, List.flatMap_cons, List.flatMap_nil, List.append_nil]
       exact (Less.of rfl (by repeat (first | exact trivial | refine ⟨⟨_, rfl, Wk.refl _⟩, ?_⟩ | refine ⟨⟨_, rfl, Wk.nil _ _⟩, ?_⟩ | refine ⟨⟨_, rfl, Wk.junk _⟩, ?_⟩)) (by repeat (first | exact trivial | refine ⟨rfl, ?_⟩)) rfl)
  ·obtain rfl : q = n := by omega
   rw [← hO] at hE
   have hd0 := hdone P hPl hP
   obtain ⟨X, hX⟩ : ∃ X, emL sts = X := ⟨_, rfl⟩
   rw [hX] at hE hRR hd0
   cases O with
   | true =>
    rw [if_pos rfl] at hE
    refine AW.seq ?_
    refine AW.region ?_
    (refine AL.rp rfl rfl (rp_lssF rfl rfl rfl (by first | assumption | omega | (dsimp only; omega))) ?_)
    refine AL.nil ?_
    try simp only [thenS, S.put]
    refine AW.seq ?_
    refine AW.condF rfl ?_
    refine AW.exit ?_
    try simp only [thenS, inBlockS, ↓reduceIte, Nat.reduceEqDiff]
    refine AW.seq ?_
    refine AW.seq ?_
    refine AW.region ?_
    refine AL.rp rfl rfl (rp_move rfl rfl) ?_
    refine AL.nil ?_
    try simp only [thenS, S.put]
    refine AW.condT rfl ?_
    refine AW.seq ?_
    refine AW.region ?_
    refine AL.rp rfl rfl (rp_build (vs := []) (zs := [.d (.p (.int .i64 0)), .d (.p (.slice none 0 0))]) pl24 inf24 rfl rfl rfl rfl) ?_
    refine AL.st rfl (st_store_any inf24 rfl rfl rfl rfl rfl rfl rfl rfl (by first | decide | (simp; done) | (simp; omega)) rfl) ?_
    refine AL.rp rfl rfl (rp_assign rfl rfl) ?_
    refine AL.nil ?_
    try simp only [thenS, S.put, S.newObj, setL, V.cs, List.length_cons, List.length_nil, List.take_succ_cons, List.take_zero, List.drop_succ_cons, List.drop_zero, List.drop_nil, List.nil_append, List.cons_append, List.append_nil, Nat.zero_add, Nat.reduceAdd, List.map_cons, List.map_nil, List.set_cons_zero, List.set_cons_succ]
    refine AW.ret ?_
    exact ⟨[_, _], ⟨⟨2, 0, _, _, rfl, rfl, rfl, Try.underlying24, .inr ⟨rfl, _, _, _, _, inf24, rfl, rfl, rfl⟩⟩, rfl, trivial⟩, .inl ⟨by rw [hE]; decide, by rw [hE]; rfl⟩, by simp [tupOf, V.pure, V.has, V.hasL]⟩
   | false =>
    rw [if_neg (by simp)] at hE
    obtain ⟨hm1, hm2⟩ := hd0 hO.symm
    refine AW.seq ?_
    refine AW.region ?_
    (refine AL.rp rfl rfl (rp_lssF rfl rfl rfl (by first | assumption | omega | (dsimp only; omega))) ?_)
    refine AL.nil ?_
    try simp only [thenS, S.put]
    refine AW.seq ?_
    refine AW.condF rfl ?_
    refine AW.exit ?_
    try simp only [thenS, inBlockS, ↓reduceIte, Nat.reduceEqDiff]
    refine AW.seq ?_
    refine AW.seq ?_
    refine AW.region ?_
    refine AL.rp rfl rfl (rp_move rfl rfl) ?_
    refine AL.nil ?_
    try simp only [thenS, S.put]
    refine AW.condF rfl ?_
    refine AW.skip ?_
    try simp only [thenS]
    refine AW.seq ?_
    refine AW.seq ?_
    refine AW.freezeH 5 1 32 (P.map stD) rfl rfl rfl (by decide) rfl rfl (by rw [List.length_map, hPl]) (by omega) (rowsF (enc := stD) (sz := 2) (l := P) (fun _ => rfl) rfl) ?_
    by_cases h4 : 400 < arcN X
    ·rw [if_pos h4] at hm1 hE
     refine AW.region ?_
     refine AL.rd rfl rfl (rd_loads_ref Try.underlying24 rfl inf24 rfl rfl rfl rfl rfl rfl) ?_
     refine AL.call (post := ?pc7) rfl (sm_call (args := [_]) ?hc7 ⟨Try.func10, rfl, rfl, rfl, rfl⟩ rfl rfl rfl rfl) ?_
     case hc7 => exact Fn.eqi (am_Check ⟨st, P⟩) hm1
     rintro _ rfl -
     try dsimp only
     (refine AL.rp rfl rfl (rp_neqT rfl rfl rfl (by first | assumption | omega | (dsimp only; omega))) ?_)
     refine AL.nil ?_
     try simp only [thenS, S.put, S.newObj, setL, V.cs, List.length_cons, List.length_nil, List.take_succ_cons, List.take_zero, List.drop_succ_cons, List.drop_zero, List.drop_nil, List.nil_append, List.cons_append, List.append_nil, Nat.zero_add, Nat.reduceAdd, List.map_cons, List.map_nil, List.set_cons_zero, List.set_cons_succ]
     refine AW.condT rfl ?_
     refine AW.seq ?_
     refine AW.region ?_
     refine AL.rp rfl rfl (rp_build (vs := []) (zs := [.d (.p (.int .i64 0)), .d (.p (.slice none 0 0))]) pl24 inf24 rfl rfl rfl rfl) ?_
     refine AL.st rfl (st_store_any inf24 rfl rfl rfl rfl rfl rfl rfl rfl (by first | decide | (simp; done) | (simp; omega)) rfl) ?_
     refine AL.rp rfl rfl (rp_assign rfl rfl) ?_
     refine AL.nil ?_
     try simp only [thenS, S.put, S.newObj, setL, V.cs, List.length_cons, List.length_nil, List.take_succ_cons, List.take_zero, List.drop_succ_cons, List.drop_zero, List.drop_nil, List.nil_append, List.cons_append, List.append_nil, Nat.zero_add, Nat.reduceAdd, List.map_cons, List.map_nil, List.set_cons_zero, List.set_cons_succ]
     refine AW.ret ?_
     exact ⟨[_, _], ⟨⟨2, 0, _, _, rfl, rfl, rfl, Try.underlying24, .inr ⟨rfl, _, _, _, _, inf24, rfl, rfl, rfl⟩⟩, rfl, trivial⟩, .inl ⟨by rw [hE]; decide, by rw [hE]; rfl⟩, by simp [tupOf, V.pure, V.has, V.hasL]⟩
    ·rw [if_neg h4] at hm1 hE
     have hm3 := hm2 hm1
     refine AW.region ?_
     refine AL.rd rfl rfl (rd_loads_ref Try.underlying24 rfl inf24 rfl rfl rfl rfl rfl rfl) ?_
     refine AL.call (post := ?pc8) rfl (sm_call (args := [_]) ?hc8 ⟨Try.func10, rfl, rfl, rfl, rfl⟩ rfl rfl rfl rfl) ?_
     case hc8 => exact Fn.eqi (am_Check ⟨st, P⟩) hm1
     rintro _ rfl -
     try dsimp only
     (refine AL.rp rfl rfl (rp_neqF rfl rfl rfl (by first | assumption | omega | (dsimp only; omega))) ?_)
     refine AL.nil ?_
     try simp only [thenS, S.put, S.newObj, setL, V.cs, List.length_cons, List.length_nil, List.take_succ_cons, List.take_zero, List.drop_succ_cons, List.drop_zero, List.drop_nil, List.nil_append, List.cons_append, List.append_nil, Nat.zero_add, Nat.reduceAdd, List.map_cons, List.map_nil, List.set_cons_zero, List.set_cons_succ]
     refine AW.condF rfl ?_
     refine AW.skip ?_
     try simp only [thenS]
     refine AW.seq ?_
     refine AW.region ?_
     refine AL.rd rfl rfl (rd_loads_ref Try.underlying24 rfl inf24 rfl rfl rfl rfl rfl rfl) ?_
     refine AL.call (post := ?pc9) rfl (sm_call (args := [_]) ?hc9 ⟨Try.func40, rfl, rfl, rfl, rfl⟩ rfl rfl rfl rfl) ?_
     case hc9 => exact Fn.eqv (am_Sorted ⟨st, P⟩) (by rw [hm3, hm1])
     rintro _ rfl -
     try dsimp only
     refine AL.rp rfl rfl (rp_extract rfl rfl rfl) ?_
     refine AL.rp rfl rfl (rp_extract rfl rfl rfl) ?_
     refine AL.st rfl (st_store_any inf24 rfl rfl rfl rfl rfl rfl rfl rfl (by first | decide | (simp; done) | (simp; omega)) rfl) ?_
     refine AL.rp rfl rfl (rp_assign rfl rfl) ?_
     refine AL.nil ?_
     try simp only [thenS, S.put, S.newObj, setL, V.cs, List.length_cons, List.length_nil, List.take_succ_cons, List.take_zero, List.drop_succ_cons, List.drop_zero, List.drop_nil, List.nil_append, List.cons_append, List.append_nil, Nat.zero_add, Nat.reduceAdd, List.map_cons, List.map_nil, List.set_cons_zero, List.set_cons_succ]
     refine AW.ret ?_
     exact ⟨[_, _], ⟨⟨2, 0, _, _, rfl, rfl, rfl, Try.underlying24, .inr ⟨rfl, _, _, _, _, inf24, rfl, rfl, rfl⟩⟩, rfl, trivial⟩, .inr ⟨hE, by rw [hRR hE]; rfl⟩, by simp [tupOf, V.pure, V.has, V.hasL]⟩
 ·obtain ⟨e, he⟩ : ∃ e, machE m = e := ⟨_, rfl⟩
  have hE : emE m = e := by unfold emE; rw [if_pos h0, he]
  rw [hE]
  rw [he] at h0
  obtain ⟨⟨st, sts⟩, rfl⟩ : ∃ m', m' = m := ⟨m, rfl⟩
  refine Fn.intro (n := 175) ⟨Try.func21, rfl, rfl, rfl, rfl⟩ (by simp [V.pure, V.has, V.hasL]) (by simp) fun w0 out => ?_
  refine AW.seq ?_
  refine AW.region ?_
  refine AL.sm rfl (sm_box 1 rfl rfl rfl rfl rfl) ?_
  refine AL.sm rfl (sm_alloc (l := [.d (.p (.int .i64 0)), .d (.p (.slice none 0 0))]) 2 inf24 rfl rfl rfl rfl) ?_
  refine AL.rp rfl rfl (rp_assign rfl rfl) ?_
  refine AL.nil ?_
  try simp only [thenS, S.put, S.newObj, setL, V.cs, List.length_cons, List.length_nil, List.take_succ_cons, List.take_zero, List.drop_succ_cons, List.drop_zero, List.drop_nil, List.nil_append, List.cons_append, List.append_nil, Nat.zero_add, Nat.reduceAdd, List.map_cons, List.map_nil, List.set_cons_zero, List.set_cons_succ, enum]
  refine AW.seq ?_
  refine AW.seq ?_
  refine AW.region ?_
  refine AL.rd rfl rfl (rd_loads_ref Try.underlying24 rfl inf24 rfl rfl rfl rfl rfl rfl) ?_
  refine AL.call (post := ?pc10) rfl (sm_call (args := [_]) ?hc10 ⟨Try.func10, rfl, rfl, rfl, rfl⟩ rfl rfl rfl rfl) ?_
  case hc10 => exact Fn.eqi (am_Check ⟨st, sts⟩) he
  rintro _ rfl -
  try dsimp only
  refine AL.rp rfl rfl (rp_assign rfl rfl) ?_
  refine AL.nil ?_
  try simp only [thenS, S.put, S.newObj, setL, V.cs, List.length_cons, List.length_nil, List.take_succ_cons, List.take_zero, List.drop_succ_cons, List.drop_zero, List.drop_nil, List.nil_append, List.cons_append, List.append_nil, Nat.zero_add, Nat.reduceAdd, List.map_cons, List.map_nil, List.set_cons_zero, List.set_cons_succ]
  refine AW.seq ?_
  refine AW.region ?_
  refine AL.rp rfl rfl (rp_move rfl rfl) ?_
  (refine AL.rp rfl rfl (rp_neqT rfl rfl rfl (by first | assumption | omega | (dsimp only; omega))) ?_)
  refine AL.nil ?_
  try simp only [thenS, S.put]
  refine AW.condT rfl ?_
  refine AW.seq ?_
  refine AW.region ?_
  refine AL.rp rfl rfl (rp_build (vs := []) (zs := [.d (.p (.int .i64 0)), .d (.p (.slice none 0 0))]) pl24 inf24 rfl rfl rfl rfl) ?_
  refine AL.rp rfl rfl (rp_move rfl rfl) ?_
  refine AL.st rfl (st_store_any inf24 rfl rfl rfl rfl rfl rfl rfl rfl (by first | decide | (simp; done) | (simp; omega)) rfl) ?_
  refine AL.rp rfl rfl (rp_assign rfl rfl) ?_
  refine AL.nil ?_
  try simp only [thenS, S.put, S.newObj, setL, V.cs, List.length_cons, List.length_nil, List.take_succ_cons, List.take_zero, List.drop_succ_cons, List.drop_zero, List.drop_nil, List.nil_append, List.cons_append, List.append_nil, Nat.zero_add, Nat.reduceAdd, List.map_cons, List.map_nil, List.set_cons_zero, List.set_cons_succ]
  refine AW.ret ?_
  exact ⟨[_, _], ⟨⟨2, 0, _, _, rfl, rfl, rfl, Try.underlying24, .inr ⟨rfl, _, _, _, _, inf24, rfl, rfl, rfl⟩⟩, rfl, trivial⟩, .inl ⟨h0, rfl⟩, by simp [tupOf, V.pure, V.has, V.hasL]⟩
end Go.Proofs.Ythlcginebeapdaa
namespace Go.Proofs.Ythlcginebeapdaa
open Go.RowKit
set_option linter.unusedSimpArgs false
set_option linter.unusedVariables false
set_option maxRecDepth 100000

theorem flat_lenF {sz : Nat} : ∀ (rows : List (List D)), (∀ l ∈ rows, l.length = sz) → rows.flatten.length = rows.length * sz
  | [], _ => by simp
  | l :: rows, h => by
    rw [List.flatten_cons, List.length_append, flat_lenF rows (fun x hx => h x (by simp [hx])), h l (by simp), List.length_cons, Nat.succ_mul, Nat.add_comm]
theorem flat_getF {sz : Nat} : ∀ (rows : List (List D)) (i j : Nat) (l0 : List D) (u : D), (∀ l ∈ rows, l.length = sz) → rows[i]? = some l0 → l0[j]? = some u → rows.flatten[i * sz + j]? = some u
  | [], i, j, l0, u, _, h, _ => by simp at h
  | l :: rows, 0, j, l0, u, hl, h, hu => by
    simp at h
    subst h
    have hj := (List.getElem?_eq_some_iff.1 hu).1
    rw [List.flatten_cons, Nat.zero_mul, Nat.zero_add, List.getElem?_append_left hj, hu]
  | l :: rows, i + 1, j, l0, u, hl, h, hu => by
    have hlen := hl l (by simp)
    rw [List.flatten_cons, List.getElem?_append_right (by rw [hlen, Nat.succ_mul]; omega), hlen, show (i + 1) * sz + j - sz = i * sz + j by rw [Nat.succ_mul]; omega]
    exact flat_getF rows i j l0 u (fun x hx => hl x (by simp [hx])) (by simpa using h) hu
theorem flat_setF {sz : Nat} : ∀ (rows : List (List D)) (i j : Nat) (l0 : List D) (v : D), (∀ l ∈ rows, l.length = sz) → rows[i]? = some l0 → j < sz → (rows.set i (l0.set j v)).flatten = rows.flatten.set (i * sz + j) v
  | [], i, j, l0, v, _, h, _ => by simp at h
  | l :: rows, 0, j, l0, v, hl, h, hj => by
    simp at h
    subst h
    have hlen := hl l (by simp)
    rw [List.set_cons_zero, List.flatten_cons, List.flatten_cons, Nat.zero_mul, Nat.zero_add, List.set_append_left _ _ (by omega)]
  | l :: rows, i + 1, j, l0, v, hl, h, hj => by
    have hlen := hl l (by simp)
    rw [List.set_cons_succ, List.flatten_cons, List.flatten_cons, List.set_append_right _ _ (by rw [hlen, Nat.succ_mul]; omega), hlen, show (i + 1) * sz + j - sz = i * sz + j by rw [Nat.succ_mul]; omega]
    rw [flat_setF rows i j l0 v (fun x hx => hl x (by simp [hx])) (by simpa using h) hj]

section
variable {β : Type} {F : Fam β} {c : Cx} {s : S} {o : Oper} {Q : Exit → S → Prop}
theorem Fam.cells_same : ∀ (L : List β) (k p : Nat) (x x' : β), L[p]? = some x → F.pre x' = F.pre x → (F.it x').length = (F.it x).length → F.cells k (L.set p x') = F.cells k L
  | [], k, p, x, x', h, _, _ => by simp at h
  | y :: L, k, 0, x, x', h, hp, hi => by
    simp at h
    subst h
    have e : (F.it x').isEmpty = (F.it y).isEmpty := by
      cases h1 : F.it x' <;> cases h2 : F.it y <;> simp_all
    simp only [List.set_cons_zero, Fam.cells, hp, Fam.ownV, hi, e]
  | y :: L, k, p + 1, x, x', h, hp, hi => by
    simp only [List.set_cons_succ, Fam.cells]
    rw [Fam.cells_same L (k + 1) p x x' (by simpa using h) hp hi]
theorem fit_fnd {lits : List (Nat × Row)} {L : List β} {base p : Nat} {x0 : β} (hH : s.H = lits ++ F.objs base L) (hlow : lits.all (fun x => decide (x.1 < base)) = true) (hp : L[p]? = some x0) : fnd s.H (base + p) = some (F.row x0) := by
  rw [hH, fnd_app, fnd_low hlow (by omega), Fam.objs_get, hp]; rfl
/-- A cell of an element of one of the slices. -/
theorem rd_load_fit {t : TypeId} {d : TypeDesc} {x : Operand} {k p i j base : Nat} {lits : List (Nat × Row)} {L : List β} {x0 : β} {l0 : List D} {v : D} (hu : c.P.underlying t = some d) (hd : isAggD d = false) (ho : o.op = .load t x) (hx : s.ev x = some (.ref (base + p) k)) (hH : s.H = lits ++ F.objs base L) (hlow : lits.all (fun x => decide (x.1 < base)) = true)
    (hp : L[p]? = some x0) (hk : k = i * F.sz + j) (hl : (F.it x0)[i]? = some l0) (hrow : ∀ x, ∀ l ∈ F.it x, l.length = F.sz) (hv : l0[j]? = some v) : RD c o s (.d v) := by
  have hne : (F.it x0).isEmpty = false := by
    cases h : F.it x0 with
    | nil => rw [h] at hl; simp at hl
    | cons => rfl
  refine rd_load_ref hu hd ho hx (fit_fnd hH hlow hp) hne ?_
  simp only [Fam.row, hk, List.getElem?_map, flat_getF (F.it x0) i j l0 v (hrow x0) hl hv, Option.map_some]
/-- A cell of an element of one of the slices is stored. -/
theorem st_store_fit {t : TypeId} {bt : Nat} {z : Value} {x y : Operand} {rb k p i j base : Nat} {lits : List (Nat × Row)} {row : Row} {L : List β} {x0 : β} (x' : β) {l0 : List D} {v : D} (hi : Inf c.P t 1 bt z) (ho : o.op = .store t x y) (hd : o.dst = none) (hx : s.ev x = some (.ref (base + p) k)) (hy : s.ev y = some (.d v)) (hH : s.H = lits ++ F.objs base L) (hlow : lits.all (fun x => decide (x.1 < base)) = true)
    (hr : fnd lits rb = some row) (hc : row.cells = F.cells base L) (hp : L[p]? = some x0) (hk : k = i * F.sz + j) (hl : (F.it x0)[i]? = some l0) (hj : j < F.sz) (hrow : ∀ x, ∀ l ∈ F.it x, l.length = F.sz) (hone : (V.d v).one = true) (hpre : F.pre x' = F.pre x0) (hit : F.it x' = (F.it x0).set i (l0.set j v)) :
    Step c o s (fun s' => s' = ⟨s.n, s.T, (rb, { row with cells := F.cells base (L.set p x') }) :: lits ++ F.objs base (L.set p x'), s.K⟩) := by
  have hil : i < (F.it x0).length := (List.getElem?_eq_some_iff.1 hl).1
  have hne : (F.it x0).isEmpty = false := by
    cases h : F.it x0 with
    | nil => rw [h] at hl; simp at hl
    | cons => rfl
  have hpl : p < L.length := (List.getElem?_eq_some_iff.1 hp).1
  have hlen : (F.it x').length = (F.it x0).length := by rw [hit]; simp
  have hne' : (F.it x').isEmpty = false := by
    cases h : F.it x' with
    | nil => rw [h] at hlen; simp at hlen; omega
    | cons => rfl
  have hflat : (F.row x').cells = (F.row x0).cells.set k (.d v) := by
    simp only [Fam.row, hit, flat_setF (F.it x0) i j l0 v (hrow x0) hl hj, hk, List.map_set]
  have hk2 : k < (F.row x0).cells.length := by
    simp only [Fam.row, List.length_map, flat_lenF (F.it x0) (hrow x0), hk]
    have : i * F.sz + F.sz ≤ (F.it x0).length * F.sz := by rw [← Nat.succ_mul]; exact Nat.mul_le_mul_right _ hil
    omega
  have key := st_store (l := (F.row x').cells) hi ho hd hx hy (fit_fnd hH hlow hp) (row := F.row x0) hne hone hk2 (by rw [hflat])
  have hsame := Fam.cells_same (F := F) L base p x0 x' hp hpre hlen
  have hrb : rb < base := by have := List.all_eq_true.1 hlow _ (fnd_mem hr); simpa using this
  intro g a w hs K Q' hK
  refine key g a w hs K Q' fun g' s' a' w' hs' hsim => ?_
  subst hs'
  refine hK g' _ a' w' rfl (hsim.less ⟨rfl, fun i v h => ⟨v, h, .refl _⟩, fun r row' hr' => ?_, fun j v h => ⟨v, h, .refl _⟩⟩)
  have hr' : fnd ((rb, { row with cells := F.cells base (L.set p x') }) :: (lits ++ F.objs base (L.set p x'))) r = some row' := hr'
  show ∃ row2, fnd ((base + p, { F.row x0 with cells := (F.row x').cells }) :: s.H) r = some row2 ∧ _
  rw [fnd] at hr'
  by_cases e : rb = r
  · subst e
    rw [if_pos (by simp)] at hr'
    have hr' := Option.some.inj hr'
    subst hr'
    refine ⟨row, ?_, rfl, rfl, rfl, fun j v hv => ⟨v, ?_, .refl _⟩⟩
    · rw [fnd, if_neg (by simp; omega), hH, fnd_app, hr]
    · rw [hc, ← hsame]; exact hv
  · rw [if_neg (by simpa using e), fnd_app] at hr'
    cases hl2 : fnd lits r with
    | some row2 =>
      rw [hl2] at hr'
      have hr' := Option.some.inj hr'
      subst hr'
      have : r < base := by have := List.all_eq_true.1 hlow _ (fnd_mem hl2); simpa using this
      exact ⟨row2, by rw [fnd, if_neg (by simp; omega), hH, fnd_app, hl2], rfl, rfl, rfl, fun j v hv => ⟨v, hv, .refl _⟩⟩
    | none =>
      rw [hl2] at hr'
      obtain ⟨q, y, rfl, hy', rfl⟩ := Fam.objs_inv hr'
      by_cases eq : q = p
      · subst eq
        rw [List.getElem?_set_self hpl] at hy'
        have hy' := Option.some.inj hy'
        subst hy'
        refine ⟨{ F.row x0 with cells := (F.row x').cells }, by rw [fnd, if_pos (by simp)], rfl, ?_, rfl, fun j v hv => ⟨v, hv, .refl _⟩⟩
        show (F.it x').isEmpty = (F.it x0).isEmpty
        rw [hne, hne']
      · rw [List.getElem?_set_ne (Ne.symm eq)] at hy'
        refine ⟨F.row y, ?_, rfl, rfl, rfl, fun j v hv => ⟨v, hv, .refl _⟩⟩
        rw [fnd, if_neg (by simp; omega), hH, fnd_app, fnd_low hlow (by omega), Fam.objs_get, hy']; rfl
theorem AW.famFreezeN {code : Code} {Q : Exit → S → Prop} (lits : List (Nat × Row)) (rb : Nat) {m base : Nat} {L : List β} {row : Row} (hH : s.H = lits ++ F.objs base L) (hr : fnd lits rb = some row) (hn : row.nil = decide (L.length = 0)) (hc : row.cells = F.cells base L) (hm : ∀ x, (F.pre x).length = m) (hrow : ∀ x, ∀ l ∈ F.it x, l.length = F.sz) (hbt : ∀ x ∈ L, (F.it x).length * F.bt ≤ 140737488355328) (hlow : lits.all (fun x => decide (x.1 < base)) = true)
    (hlo : ∀ x ∈ lits, x.1 ≠ rb → ∀ r, base ≤ r → V.hasL r x.2.cells = false) (hT : s.T.all (fun x => x.2.low base) = true) (hK : V.lowL base s.K = true)
    (h : AW c code Q ⟨s.n, s.T, (rb, { row with cells := L.flatMap fun x => (F.data x).map V.d }) :: lits, s.K⟩) : AW c code Q s := by
  by_cases h0 : L = []
  · subst h0
    refine AW.less (s' := ⟨s.n, s.T, (rb, { row with cells := [] }) :: lits, s.K⟩) ⟨rfl, fun i v h => ⟨v, h, .refl _⟩, fun r row' h => ?_, fun j v h => ⟨v, h, .refl _⟩⟩ h
    have h : fnd ((rb, { row with cells := ([] : List V) }) :: lits) r = some row' := h
    refine ⟨row', ?_, rfl, rfl, rfl, fun j v hv => ⟨v, hv, .refl _⟩⟩
    have e0 : row = { row with cells := ([] : List V) } := by
      cases row
      simp only at hc
      rw [hc]; rfl
    rw [hH, fnd_app]
    rw [fnd] at h
    by_cases e : rb = r
    · rw [if_pos (by simpa using e)] at h
      have h := Option.some.inj h
      rw [← e, hr, ← h]
      exact congrArg some e0
    · rw [if_neg (by simpa using e)] at h
      rw [h]
  · exact AW.famFreeze lits rb hH hr (by rw [hn]; simp [h0]) hc hm hrow hbt hlow hlo hT hK h
end
theorem rd_load_famE {β : Type} {F : Fam β} {c : Cx} {s : S} {o : Oper} {t : TypeId} {d : TypeDesc} {x : Operand} {rb k p m base : Nat} {row : Row} {L : List β} {x0 : β} {v : V} (hu : c.P.underlying t = some d) (hd : isAggD d = false) (ho : o.op = .load t x) (hx : s.ev x = some (.ref rb k)) (hr : fnd s.H rb = some row) (hn : row.nil = false) (hc : row.cells = F.cells base L) (hm : ∀ x, (F.pre x).length = m) (hk : k = p * (m + 1) + m) (hp : L[p]? = some x0) (he : F.ownV (base + p) x0 = v) : RD c o s v := by
  subst he; exact rd_load_fam hu hd ho hx hr hn hc hm hk hp
end Go.Proofs.Ythlcginebeapdaa
namespace Go.Proofs.Ythlcginebeapdaa
open Go.RowKit
set_option linter.unusedSimpArgs false
set_option linter.unusedVariables false
section
variable {c : Cx} {s : S} {o : Oper} {t t' : TypeId} {x y : Operand} {m n : Int}
theorem rp_addZ (z : Int) (ho : o.op = .binOp .add t x y t') (hx : s.ev x = some (.i m)) (hy : s.ev y = some (.i n)) (hz : m + n = z) (h : -9223372036854775808 ≤ z ∧ z ≤ 9223372036854775807) : RP c o s (.i z) := by subst hz; exact rp_add ho hx hy h
end
section
variable {c : Cx} {s : S} {o : Oper} {Q : Exit → S → Prop} {L : List Oper} {need : Nat → Bool} {i : Nat} {r : List (Nat × Nat)}
end
end Go.Proofs.Ythlcginebeapdaa
