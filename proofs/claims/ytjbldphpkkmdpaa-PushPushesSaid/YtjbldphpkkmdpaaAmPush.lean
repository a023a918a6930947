/- push.Push. -/
import Derived.Test.YtjbldphpkkmdpaaAmTrimF
import Derived.Test.YtjbldphpkkmdpaaAmEndsO
import Derived.Test.YtjbldphpkkmdpaaAmPushed
import Derived.Test.YtjbldphpkkmdpaaAmTre
import Derived.Test.YtjbldphpkkmdpaaAmX
namespace Go.Proofs.Ytjbldphpkkmdpaa
open Go.RowKit
set_option linter.unusedSimpArgs false
set_option linter.unusedVariables false
set_option maxRecDepth 100000

theorem fs_rows : ∀ x : St, ∀ l ∈ FS.it x, l.length = FS.sz := by
 intro x l hl
 simp [FS] at hl
 obtain ⟨_, _, rfl⟩ := hl
 rfl
theorem fs_it_set (f : Int) (A : List Ar) (i : Nat) (y : Ar) : FS.it ⟨f, A.set i y⟩ = (FS.it ⟨f, A⟩).set i (arD y) := by simp [FS, List.map_set]
theorem fs_it_get {f : Int} {A : List Ar} {i : Nat} {y : Ar} (h : A[i]? = some y) : (FS.it ⟨f, A⟩)[i]? = some (arD y) := by simp [FS, h]
theorem fs_it_len (f : Int) (A : List Ar) : (FS.it ⟨f, A⟩).length = A.length := by simp [FS]
theorem fs_data (Ts : List St) : Ts.map FS.data = Ts.map stD := rfl
theorem rd_load_famE {β : Type} {F : Fam β} {c : Cx} {s : S} {o : Oper} {t : TypeId} {d : TypeDesc} {x : Operand} {rb k p m base : Nat} {row : Row} {L : List β} {x0 : β} {v : V} (hu : c.P.underlying t = some d) (hd : isAggD d = false) (ho : o.op = .load t x) (hx : s.ev x = some (.ref rb k)) (hr : fnd s.H rb = some row) (hn : row.nil = false) (hc : row.cells = F.cells base L) (hm : ∀ x, (F.pre x).length = m) (hk : k = p * (m + 1) + m) (hp : L[p]? = some x0) (he : F.ownV (base + p) x0 = v) : RD c o s v := by
 subst he; exact rd_load_fam hu hd ho hx hr hn hc hm hk hp
theorem push_rep {c : Cx} {s : S} {g : Nat → Nat × Nat} {a : Act} {w : World} {st : Int} {n : Nat} {Ts : List St} {lits : List (Nat × Row)} {row : Row} {f : Bool} {xs : Array Operand} (hs : Sim c g s a w) (hx : xs.toList.map s.ev = ([.agg [.i st, .own 901 2 n f]] : List V).map some) (hH : s.H = lits ++ FS.objs 1000 Ts) (hlow : lits.all (fun x => decide (x.1 < 1000)) = true)
  (hr : fnd lits 901 = some row) (hf : row.nil = f) (hc : row.cells = FS.cells 1000 Ts) (hn : Ts.length = n) (hl : n ≤ 60) (ha : ∀ x ∈ Ts, x.arcs.length ≤ 400) : VReps w (fun b => ¬ c.out b) g [mV ⟨st, Ts⟩] (xs.toList.map a.eval) := by
 subst hn
 obtain ⟨h1, h2⟩ := args_eval hs hx
 refine ⟨by simpa using h1, fun j u x hu hx => ?_⟩
 cases j with
 | succ j => simp at hu
 | zero =>
  simp only [List.getElem?_cons_zero, Option.some.injEq] at hu
  subst hu
  have h3 := h2 0 _ x rfl hx
  cases h3 with
  | agg _ cs hl2 hh =>
   refine .agg _ cs hl2 fun j y z hy hz => ?_
   match j, hy with
   | 0, hy =>
    simp only [List.getElem?_cons_zero, Option.some.injEq] at hy
    subst hy
    rw [VRep.p_eq (hh 0 _ z rfl hz)]
    exact .d _ _ (.p _)
   | 1, hy =>
    simp only [List.getElem?_cons_succ, List.getElem?_cons_zero, Option.some.injEq] at hy
    subst hy
    exact fam_rep (F := FS) (m := 1) (base := 1000) (btr := 32) hs hH hlow hr hf hc (fun _ => rfl) rfl (by omega) fs_rows (fun x hx => by have := ha x hx; simp [FS]; omega) (hh 1 _ z rfl hz)
   | n + 2, hy => simp at hy

theorem am_Trim_err {m : Mach} (h : machE m ≠ 0) : Fn Try.prog 55 [mV m] (fun v => v = .tup [.agg [.i 0, .nil], .i (machE m)]) := (am_Trim0 m).mono fun v hv => by
 rcases hv with ⟨_, hv⟩ | ⟨h1, _⟩
 ·exact hv
 ·exact absurd h1 h
theorem am_Trim_ok {m : Mach} (h : machE m = 0) : Fn Try.prog 55 [mV m] (fun v => v = .tup [mV (trimM m), .i 0]) := (am_Trim0 m).mono fun v hv => by
 rcases hv with ⟨h1, _⟩ | ⟨h1, hv⟩
 ·exact absurd h h1
 ·rw [hv, h]

set_option maxHeartbeats 4000000 in
theorem am_Push0 (m : Mach) : Fn Try.prog 19 [mV m] (fun v => resQ (pushE m) (pushM m) (pushV m) v) := by
 by_cases h0 : machE m = 0
 ·by_cases h1 : disE (enD (trimM m)) (trimM m) = 0
  ·have hcon := am_TrimF m h0
   obtain ⟨hDl, hDb⟩ := disL_facts h1
   have hends := am_EndsO (trimM m) (disE_mach h1) h1
   have hz := machE_zero (disE_mach h1)
   have hover := fun (D : List Nat) (T : Mach) (hT : trimM m = T) (hD : disL (enD T) T = D) (q : Nat) (s : St) (a : Ar) => pushE_over (m := m) (T := T) (D := D) h0 h1 hT hD (q := q) (s := s) (a := a)
   have hgood := fun (D : List Nat) (T : Mach) (hT : trimM m = T) (hD : disL (enD T) T = D) => pushE_ok (m := m) (T := T) (D := D) h0 h1 hT hD
   obtain ⟨T, hT⟩ : ∃ T, trimM m = T := ⟨_, rfl⟩
   obtain ⟨D, hD⟩ : ∃ D, disL (enD T) T = D := ⟨_, rfl⟩
   rw [hT] at hcon hDl hDb hends hz
   rw [hD] at hDl hDb hends
   have hover := hover D T hT hD
   have hgood := hgood D T hT hD
   obtain ⟨e, he⟩ : ∃ e, pushE m = e := ⟨_, rfl⟩
   obtain ⟨M, hM⟩ : ∃ M, pushM m = M := ⟨_, rfl⟩
   obtain ⟨X, hX⟩ : ∃ X, pushV m = X := ⟨_, rfl⟩
   rw [he, hM, hX] at hgood ⊢
   rw [he] at hover
   obtain ⟨st, sts⟩ := m
   obtain ⟨a, Ts⟩ := T
   clear hT hD h1 he hM hX
   obtain ⟨h60, h400, hst, hz⟩ := hz
   simp only at h60 h400 hst hz hDl hcon hends hover hgood
   have hal4 : ∀ x ∈ Ts, x.arcs.length ≤ 400 := fun x hx => Nat.le_trans (arcN_mem Ts x hx) h400
   obtain ⟨n, hn⟩ : ∃ n, Ts.length = n := ⟨_, rfl⟩
   rw [hn] at h60 hst hz hDl hcon hends
   obtain ⟨f, hf⟩ : ∃ f, decide (n = 0) = f := ⟨_, rfl⟩
   rw [hf] at hcon
   refine Fn.intro (n := 107) ⟨Try.func19, rfl, rfl, rfl, rfl⟩ (by simp [V.pure, V.has, V.hasL]) (by simp) fun w0 out => ?_
   refine AW.seq ?_
   refine AW.region ?_
   refine AL.sm rfl (sm_box 1 rfl rfl rfl rfl rfl) ?_
   refine AL.sm rfl (sm_alloc (l := [.d (.p (.int .i64 0)), .d (.p (.slice none 0 0))]) 2 inf24 rfl rfl rfl rfl) ?_
   refine AL.rp rfl rfl (rp_assign rfl rfl) ?_
   refine AL.rp rfl rfl (rp_assign rfl rfl) ?_
   refine AL.nil ?_
   try simp only [thenS, S.put, S.newObj, setL, V.cs, List.length_cons, List.length_nil, List.take_succ_cons, List.take_zero, List.drop_succ_cons, List.drop_zero, List.drop_nil, List.nil_append, List.cons_append, List.append_nil, Nat.zero_add, Nat.reduceAdd, List.map_cons, List.map_nil, List.set_cons_zero, List.set_cons_succ, enum]
   refine AW.seq ?_
   refine AW.region ?_
   refine AL.rd rfl rfl (rd_loads_ref Try.underlying24 rfl inf24 rfl rfl rfl rfl rfl rfl) ?_
   refine AL.callo (post := ?pc8) rfl (sm_callo (args := [_]) ?hc8 ⟨Try.func55, rfl, rfl, rfl, rfl⟩ rfl rfl rfl rfl ?fc8) ?_
   case hc8 => exact hcon
   case fc8 => exact (by rintro _ _ ⟨rfl, rfl⟩; exact clean_fam (b := 900) rfl rfl rfl (by decide) (by decide))
   rintro _ _ ⟨rfl, rfl⟩
   try dsimp only
   try simp only [S.put, List.cons_append]
   refine AL.less (Less.rot (F := FS) rfl) ?_
   try simp only [List.cons_append, List.nil_append]
   refine AL.rp rfl rfl (rp_move rfl rfl) ?_
   refine AL.rp rfl rfl (rp_extract rfl rfl rfl) ?_
   refine AL.rp rfl rfl (rp_extract rfl rfl rfl) ?_
   refine AL.sm rfl (sm_alloc (l := [.d (.p (.int .i64 0)), .d (.p (.slice none 0 0))]) 5 inf24 rfl (by first | rfl | (simp only [S.clean, S.put, S.newObj, List.all_cons, objs_clean_low, Nat.reduceLT]; simp [S.forget, V.has, V.hasL, junkIf, setL, V.cs, hasL_i, hasL_b, hasL_s, hasL_n, hasL_rep, hasL_flat, hasL_append, cells_hasL_low, has_ownV, hasL_frep, nb1, nb2, nb3, nb4, -List.map_set]; try omega)) rfl rfl) ?_
   refine AL.st rfl (st_store_any inf24 rfl rfl rfl rfl rfl rfl rfl rfl (by first | decide | (simp; done) | (simp; omega)) rfl) ?_
   refine AL.rp rfl rfl (rp_assign rfl rfl) ?_
   refine AL.nil ?_
   try simp only [thenS, S.put, S.newObj, setL, V.cs, List.length_cons, List.length_nil, List.take_succ_cons, List.take_zero, List.drop_succ_cons, List.drop_zero, List.drop_nil, List.nil_append, List.cons_append, List.append_nil, Nat.zero_add, Nat.reduceAdd, List.map_cons, List.map_nil, List.set_cons_zero, List.set_cons_succ]
   refine AW.seq ?_
   refine AW.seq ?_
   refine AW.region ?_
   refine AL.rp rfl rfl (rp_move rfl rfl) ?_
   (refine AL.rp rfl rfl (rp_neqF rfl rfl rfl (by first | assumption | omega | (dsimp only; omega))) ?_)
   refine AL.nil ?_
   try simp only [thenS, S.put, List.nil_append, List.cons_append]
   refine AW.condF rfl ?_
   refine AW.skip ?_
   try simp only [thenS, List.nil_append, List.cons_append]
   refine AW.seq ?_
   refine AW.less (s' := ⟨107, [(2, .ref 2 0), (5, .ref 5 0)], [(2, ⟨24, [.i 0, .nil], false, 0⟩), (5, ⟨24, [.i a, .own 901 2 n f], false, 0⟩), (901, ⟨52, FS.cells 1000 Ts, f, 2⟩)] ++ FS.objs 1000 Ts, []⟩) (Less.of rfl (by repeat (first | exact trivial | refine ⟨⟨_, rfl, Wk.refl _⟩, ?_⟩ | refine ⟨⟨_, rfl, Wk.nil _ _⟩, ?_⟩ | refine ⟨⟨_, rfl, Wk.junk _⟩, ?_⟩)) (by repeat (first | exact trivial | refine ⟨rfl, ?_⟩ | exact LH.fam | refine LH.skip (by decide) ?_)) rfl) ?_
   simp only [List.cons_append, List.nil_append]
   refine AW.region ?_
   refine AL.rd rfl rfl (rd_loads_ref Try.underlying24 rfl inf24 rfl rfl rfl rfl rfl rfl) ?_
   refine AL.sm rfl (sm_callF (hends) (by intro v hv; simp only [List.mem_map] at hv; obtain ⟨_, _, rfl⟩ := hv; exact ⟨_, rfl⟩) ⟨Try.func56, rfl, rfl, rfl, rfl⟩ rfl rfl (fun g a w hs => push_rep (lits := [_, _, _]) hs rfl rfl rfl rfl rfl rfl hn h60 hal4) rfl ((by first | rfl | (simp only [S.clean, S.put, S.newObj, List.all_cons, objs_clean_low, Nat.reduceLT]; simp [S.forget, V.has, V.hasL, junkIf, setL, V.cs, hasL_i, hasL_b, hasL_s, hasL_n, hasL_rep, hasL_flat, hasL_append, cells_hasL_low, has_ownV, hasL_frep, nb1, nb2, nb3, nb4, -List.map_set]; try omega)))) ?_
   try simp only [S.put]
   refine AL.rp rfl rfl (rp_move rfl rfl) ?_
   refine AL.rp rfl rfl (rp_extract rfl rfl rfl) ?_
   refine AL.rp rfl rfl (rp_extract rfl rfl rfl) ?_
   refine AL.rp rfl rfl (rp_assign rfl rfl) ?_
   refine AL.rp rfl rfl (rp_assign rfl rfl) ?_
   refine AL.nil ?_
   try simp only [thenS, S.put, S.newObj, setL, V.cs, List.length_cons, List.length_nil, List.take_succ_cons, List.take_zero, List.drop_succ_cons, List.drop_zero, List.drop_nil, List.nil_append, List.cons_append, List.append_nil, Nat.zero_add, Nat.reduceAdd, List.map_cons, List.map_nil, List.set_cons_zero, List.set_cons_succ]
   refine AW.seq ?_
   refine AW.seq ?_
   refine AW.region ?_
   refine AL.rp rfl rfl (rp_move rfl rfl) ?_
   (refine AL.rp rfl rfl (rp_neqF rfl rfl rfl (by first | assumption | omega | (dsimp only; omega))) ?_)
   refine AL.nil ?_
   try simp only [thenS, S.put, List.nil_append, List.cons_append]
   refine AW.condF rfl ?_
   refine AW.skip ?_
   try simp only [thenS, List.nil_append, List.cons_append]
   refine AW.seq ?_
   refine AW.seq ?_
   refine AW.less (s' := ⟨107, [(2, .ref 2 0), (5, .ref 5 0), (7, .own 21 1 n false)], [(2, ⟨24, [.i 0, .nil], false, 0⟩), (5, ⟨24, [.i a, .own 901 2 n f], false, 0⟩), (21, ⟨3, D.map V.n, false, 1⟩), (901, ⟨52, FS.cells 1000 Ts, f, 2⟩)] ++ FS.objs 1000 Ts, []⟩) (Less.of rfl (by repeat (first | exact trivial | refine ⟨⟨_, rfl, Wk.refl _⟩, ?_⟩ | refine ⟨⟨_, rfl, Wk.nil _ _⟩, ?_⟩ | refine ⟨⟨_, rfl, Wk.junk _⟩, ?_⟩)) (by repeat (first | exact trivial | refine ⟨rfl, ?_⟩ | exact LH.fam | refine LH.skip (by decide) ?_)) rfl) ?_
   simp only [List.cons_append, List.nil_append]
   refine AW.region ?_
   refine AL.rp rfl rfl (rp_field_ref Try.underlying24 rfl rfl rfl inf22 (by decide) rfl) ?_
   refine AL.rd rfl rfl (rd_load_ref Try.underlying22 rfl rfl rfl rfl rfl rfl) ?_
   refine AL.rp rfl rfl (rp_len_own Try.underlying22 rfl rfl) ?_
   refine AL.rp rfl rfl (rp_move rfl rfl) ?_
   refine AL.nil ?_
   try simp only [thenS, S.put, List.nil_append, List.cons_append]
   refine AW.block ?_
   refine AW.loop (fun s' => ∃ (k : Nat) (P : List St), k ≤ n ∧ P.length = n ∧ (∀ q x, q < k → Ts[q]? = some x → P[q]? = some (pushS D q x)) ∧ (∀ q, k ≤ q → P[q]? = Ts[q]?) ∧ (∀ q x y, q < k → Ts[q]? = some x → y ∈ x.arcs → pushW D q y ≤ 1000000000) ∧ s' = ⟨107, [(2, .ref 2 0), (5, .ref 5 0), (7, .own 21 1 n false), (32, .i n), (33, .i k)], [(2, ⟨24, [.i 0, .nil], false, 0⟩), (5, ⟨24, [.i a, .own 901 2 n f], false, 0⟩), (21, ⟨3, D.map V.n, false, 1⟩), (901, ⟨52, FS.cells 1000 P, f, 2⟩)] ++ FS.objs 1000 P, []⟩) (fun s' => n - s'.nat 33) ⟨_, ?_, 0, Ts, by omega, hn, (fun q x h => absurd h (by omega)), (fun q _ => rfl), (fun q x y h => absurd h (by omega)), rfl⟩ ?_
   ·exact (Less.of rfl (by repeat (first | exact trivial | refine ⟨⟨_, rfl, Wk.refl _⟩, ?_⟩ | refine ⟨⟨_, rfl, Wk.nil _ _⟩, ?_⟩ | refine ⟨⟨_, rfl, Wk.junk _⟩, ?_⟩)) (by repeat (first | exact trivial | refine ⟨rfl, ?_⟩ | exact LH.fam | refine LH.skip (by decide) ?_)) rfl)
   rintro s' ⟨k, P, hk, hPl, hPd, hPu, hok, rfl⟩
   by_cases hlt : k < n
   ·obtain rfl : f = false := by rw [← hf]; simp; omega
    obtain ⟨x, hx⟩ := get_lt hn hlt
    obtain ⟨d, hd⟩ := get_lt hDl hlt
    have hdb := hDb d (List.mem_of_getElem? hd)
    have hxm := List.mem_of_getElem? hx
    have hxf := (hz x hxm).1
    simp only [finOk, decide_eq_true_eq] at hxf
    have hPk : P[k]? = some x := by rw [hPu k (Nat.le_refl _), hx]
    obtain ⟨la, hla⟩ : ∃ n, x.arcs.length = n := ⟨_, rfl⟩
    have hla4 := hal4 x hxm
    rw [hla] at hla4
    refine AW.seq ?_
    refine AW.region ?_
    (refine AL.rp rfl rfl (rp_lssT rfl rfl rfl (by first | assumption | omega | (dsimp only; omega))) ?_)
    refine AL.nil ?_
    try simp only [thenS, S.put, List.nil_append, List.cons_append]
    refine AW.seq ?_
    refine AW.condT rfl ?_
    refine AW.skip ?_
    try simp only [thenS, List.nil_append, List.cons_append]
    refine AW.seq ?_
    refine AW.block ?_
    refine AW.seq ?_
    refine AW.region ?_
    refine AL.rp rfl rfl (rp_move rfl rfl) ?_
    refine AL.rp rfl rfl (rp_assign rfl rfl) ?_
    refine AL.nil ?_
    try simp only [thenS, S.put, List.nil_append, List.cons_append]
    refine AW.seq ?_
    refine AW.region ?_
    refine AL.rp rfl rfl (rp_field_ref Try.underlying24 rfl rfl rfl inf22 (by decide) rfl) ?_
    refine AL.rd rfl rfl (rd_load_ref Try.underlying22 rfl rfl rfl rfl rfl rfl) ?_
    refine AL.rp rfl rfl (rp_move rfl rfl) ?_
    refine AL.rp rfl rfl (rp_index_own Try.underlying22 inf52 rfl rfl rfl rfl (by first | assumption | omega)) ?_
    refine AL.rp rfl rfl (rp_assign rfl rfl) ?_
    refine AL.nil ?_
    try simp only [thenS, S.put, List.nil_append, List.cons_append]
    refine AW.seqc (fun s' => s' = ⟨107, [(2, .ref 2 0), (5, .ref 5 0), (7, .own 21 1 n false), (8, .i k), (9, .ref 901 (k * 2)), (32, .i n), (33, .i k)], [(2, ⟨24, [.i 0, .nil], false, 0⟩), (5, ⟨24, [.i a, .own 901 2 n false], false, 0⟩), (21, ⟨3, D.map V.n, false, 1⟩), (901, ⟨52, FS.cells 1000 (P.set k ⟨pushF D k x, x.arcs⟩), false, 2⟩)] ++ FS.objs 1000 (P.set k ⟨pushF D k x, x.arcs⟩), []⟩) ?_ ?_
    ·skip
     by_cases hin : x.fin = 1000000001
     ·have hs0 : P.set k ⟨pushF D k x, x.arcs⟩ = P := by
       rw [pushF_inf hin, ← hin]
       refine List.ext_getElem? fun q => ?_
       rw [List.getElem?_set]
       by_cases e : k = q
       ·subst e; rw [if_pos rfl, hPk, if_pos (by omega)]
       ·rw [if_neg e]
      refine AW.seq ?_
      refine AW.region ?_
      refine AL.rp rfl rfl (rp_move rfl rfl) ?_
      refine AL.rp rfl rfl (rp_nilCheck rfl rfl) ?_
      refine AL.rp rfl rfl (rp_field_ref Try.underlying52 rfl rfl rfl inf3 (by decide) rfl) ?_
      refine AL.rd rfl rfl (rd_load_fpre (m := 1) Try.underlying3 rfl rfl rfl rfl rfl rfl (fun _ => rfl) rfl (by assumption) rfl) ?_
      (refine AL.rp rfl rfl (rp_neqF rfl rfl rfl (by first | assumption | omega | (dsimp only; omega))) ?_)
      refine AL.nil ?_
      try simp only [thenS, S.put, List.nil_append, List.cons_append]
      refine AW.condF rfl ?_
      refine AW.skip ?_
      try simp only [thenS, List.nil_append, List.cons_append]
      refine ⟨_, ?_, rfl⟩
      rw [hs0]; exact (Less.of rfl (by repeat (first | exact trivial | refine ⟨⟨_, rfl, Wk.refl _⟩, ?_⟩ | refine ⟨⟨_, rfl, Wk.nil _ _⟩, ?_⟩ | refine ⟨⟨_, rfl, Wk.junk _⟩, ?_⟩)) (by repeat (first | exact trivial | refine ⟨rfl, ?_⟩ | exact LH.fam | refine LH.skip (by decide) ?_)) rfl)
     ·have hpf : pushF D k x = x.fin - (d : Int) := pushF_get hin hd
      refine AW.seq ?_
      refine AW.region ?_
      refine AL.rp rfl rfl (rp_move rfl rfl) ?_
      refine AL.rp rfl rfl (rp_nilCheck rfl rfl) ?_
      refine AL.rp rfl rfl (rp_field_ref Try.underlying52 rfl rfl rfl inf3 (by decide) rfl) ?_
      refine AL.rd rfl rfl (rd_load_fpre (m := 1) Try.underlying3 rfl rfl rfl rfl rfl rfl (fun _ => rfl) rfl (by assumption) rfl) ?_
      (refine AL.rp rfl rfl (rp_neqT rfl rfl rfl (by first | assumption | omega | (dsimp only; omega))) ?_)
      refine AL.nil ?_
      try simp only [thenS, S.put, List.nil_append, List.cons_append]
      refine AW.condT rfl ?_
      refine AW.draw [(0, true), (1, true), (2, true), (3, true), (4, true), (5, true), (6, true), (7, true), (8, true), (9, true), (10, true), (11, false)] (fun i => !([11] : List Nat).contains i) 12 (by kernel_rfl) (by kernel_rfl) rfl (by kernel_rfl) ?_
      refine AD1.rp rfl rfl rfl (fun _ _ h => h) (rp_move rfl rfl) ?_
      refine AD1.rp rfl rfl rfl (fun _ _ h => h) (rp_nilCheck rfl rfl) ?_
      refine AD1.rp rfl rfl rfl (fun _ _ h => h) (rp_field_ref Try.underlying52 rfl rfl rfl inf3 (by decide) rfl) ?_
      refine AD1.rd rfl rfl rfl (fun _ _ h => h) (rd_load_fpre (m := 1) Try.underlying3 rfl rfl rfl rfl rfl rfl (fun _ => rfl) rfl (by assumption) rfl) ?_
      refine AD1.rp rfl rfl rfl (fun _ _ h => h) (rp_move rfl rfl) ?_
      refine AD1.rp rfl rfl rfl (fun _ _ h => h) (rp_move rfl rfl) ?_
      refine AD1.rp rfl rfl rfl (fun _ _ h => h) (rp_index_own Try.underlying40 inf3 rfl rfl rfl rfl (by first | assumption | omega)) ?_
      refine AD1.rd rfl rfl rfl (fun _ _ h => h) (rd_load_map Try.underlying3 rfl rfl rfl rfl rfl rfl (by assumption)) ?_
      refine AD1.rp rfl rfl rfl (fun _ _ h => h) (rp_sub rfl rfl rfl (by first | omega | (dsimp only; omega))) ?_
      refine AD1.rp rfl rfl rfl (fun _ _ h => h) (rp_nilCheck rfl rfl) ?_
      refine AD1.rp rfl rfl rfl (fun _ _ h => h) (rp_field_ref Try.underlying52 rfl rfl rfl inf3 (by decide) rfl) ?_
      refine AD1.go ?_
      refine AD2.go ?_
      refine AD3.st rfl rfl rfl (st_store_fpre (lits := [_, _, _, _]) (m := 1) (⟨x.fin - (d : Int), x.arcs⟩) inf3 rfl rfl rfl rfl rfl rfl rfl (fun _ => rfl) rfl rfl (by assumption) (by decide) rfl (by rfl) (by rfl)) ?_
      try simp only [S.put, S.newObj, List.map_cons, List.map_nil, junkHi, V.low, V.lowL, low_ownV, Nat.reduceLT, decide_true, decide_false, Bool.and_true, Bool.true_and, if_true, if_false, Bool.false_eq_true, ite_true, ite_false, ↓reduceIte, List.cons_append, List.nil_append]
      refine AD3.nil ?_
      try simp only [thenS, S.put, S.newObj, setL, V.cs, List.length_cons, List.length_nil, List.take_succ_cons, List.take_zero, List.drop_succ_cons, List.drop_zero, List.drop_nil, List.nil_append, List.cons_append, List.append_nil, Nat.zero_add, Nat.reduceAdd, List.map_cons, List.map_nil, List.set_cons_zero, List.set_cons_succ]
      refine ⟨_, ?_, rfl⟩
      rw [hpf]; exact (Less.of rfl (by repeat (first | exact trivial | refine ⟨⟨_, rfl, Wk.refl _⟩, ?_⟩ | refine ⟨⟨_, rfl, Wk.nil _ _⟩, ?_⟩ | refine ⟨⟨_, rfl, Wk.junk _⟩, ?_⟩)) (by repeat (first | exact trivial | refine ⟨rfl, ?_⟩ | exact LH.fam | refine LH.skip (by decide) ?_)) rfl)
    ·rintro s' rfl
     obtain ⟨F, hF⟩ : ∃ F, pushF D k x = F := ⟨_, rfl⟩
     rw [hF]
     simp only [List.cons_append, List.nil_append]
     have hP1 : (P.set k ⟨F, x.arcs⟩)[k]? = some ⟨F, x.arcs⟩ := List.getElem?_set_self (by omega)
     have hl1 : (FS.it ⟨F, x.arcs⟩).length = la := by rw [fs_it_len, hla]
     refine AW.seq ?_
     refine AW.region ?_
     refine AL.rp rfl rfl (rp_move rfl rfl) ?_
     refine AL.rp rfl rfl (rp_nilCheck rfl rfl) ?_
     refine AL.rp rfl rfl (rp_field_ref Try.underlying52 rfl rfl rfl inf50 (by decide) rfl) ?_
     refine AL.rd rfl rfl (rd_load_fam (m := 1) Try.underlying50 rfl rfl rfl rfl rfl rfl (fun _ => rfl) rfl (by assumption)) ?_
     refine AL.rp rfl rfl (rp_len_own Try.underlying50 rfl rfl) ?_
     refine AL.rp rfl rfl (rp_move rfl rfl) ?_
     refine AL.nil ?_
     try simp only [thenS, S.put, List.nil_append, List.cons_append]
     refine AW.block ?_
     refine AW.loop (fun s' => ∃ (i : Nat) (A : List Ar), i ≤ la ∧ A.length = la ∧ (∀ j y, j < i → x.arcs[j]? = some y → A[j]? = some (pushA D k y)) ∧ (∀ j, i ≤ j → A[j]? = x.arcs[j]?) ∧ (∀ j y, j < i → x.arcs[j]? = some y → pushW D k y ≤ 1000000000) ∧ s' = ⟨107, [(2, .ref 2 0), (5, .ref 5 0), (7, .own 21 1 n false), (8, .i k), (9, .ref 901 (k * 2)), (32, .i n), (33, .i k), (60, .i la), (61, .i i)], [(2, ⟨24, [.i 0, .nil], false, 0⟩), (5, ⟨24, [.i a, .own 901 2 n false], false, 0⟩), (21, ⟨3, D.map V.n, false, 1⟩), (901, ⟨52, FS.cells 1000 (P.set k ⟨F, A⟩), false, 2⟩)] ++ FS.objs 1000 (P.set k ⟨F, A⟩), []⟩) (fun s' => la - s'.nat 61) ⟨_, ?_, 0, x.arcs, by omega, hla, (fun j y h => absurd h (by omega)), (fun j _ => rfl), (fun j y h => absurd h (by omega)), rfl⟩ ?_
     ·rw [hl1]; exact (Less.of rfl (by repeat (first | exact trivial | refine ⟨⟨_, rfl, Wk.refl _⟩, ?_⟩ | refine ⟨⟨_, rfl, Wk.nil _ _⟩, ?_⟩ | refine ⟨⟨_, rfl, Wk.junk _⟩, ?_⟩)) (by repeat (first | exact trivial | refine ⟨rfl, ?_⟩ | exact LH.fam | refine LH.skip (by decide) ?_)) rfl)
     rintro s' ⟨i, A, hi, hAl, hAd, hAu, hAk, rfl⟩
     have hP1 : (P.set k ⟨F, A⟩)[k]? = some ⟨F, A⟩ := List.getElem?_set_self (by omega)
     have hl1 : (FS.it ⟨F, A⟩).length = la := by rw [fs_it_len, hAl]
     by_cases hil : i < la
     ·obtain ⟨y, hy⟩ := get_lt hla hil
      have hym := List.mem_of_getElem? hy
      have hyt := (hz x hxm).2 y hym
      have hAi : A[i]? = some y := by rw [hAu i (Nat.le_refl _), hy]
      obtain ⟨yi, yo, yw, yt⟩ := y
      simp only [arOk, decide_eq_true_eq] at hyt
      obtain ⟨p, rfl⟩ : ∃ p : Nat, yt = p := ⟨yt.toNat, by omega⟩
      obtain ⟨dp, hdp⟩ := get_lt hDl (show p < n by omega)
      have hdpb := hDb dp (List.mem_of_getElem? hdp)
      have hit := fs_it_get (f := F) hAi
      have hown : FS.ownV (1000 + k) ⟨F, A⟩ = .own (1000 + k) 4 la false := by
       have h2 : (FS.it ⟨F, A⟩).isEmpty = false := by cases h : FS.it ⟨F, A⟩ with | nil => rw [h] at hl1; simp at hl1; omega | cons => rfl
       simp only [Fam.ownV, hl1, h2]; rfl
      have hpw := pushW_get (i := yi) (o := yo) (w := yw) hdp hd
      have hpa := pushA_get (i := yi) (o := yo) (w := yw) hdp hd
      have hP2 : ((P.set k ⟨F, A⟩).set k ⟨F, A.set i ⟨yi, yo, yw + ((dp : Int) - (d : Int)), p⟩⟩)[k]? = some ⟨F, A.set i ⟨yi, yo, yw + ((dp : Int) - (d : Int)), p⟩⟩ := List.getElem?_set_self (by rw [List.length_set]; omega)
      have hit2 : (FS.it ⟨F, A.set i ⟨yi, yo, yw + ((dp : Int) - (d : Int)), p⟩⟩)[i]? = some (arD ⟨yi, yo, yw + ((dp : Int) - (d : Int)), p⟩) := fs_it_get (List.getElem?_set_self (by omega))
      by_cases hov : 1000000000 < yw + ((dp : Int) - (d : Int))
      ·have he4 : e = 4 := hover k x _ hx hym (by rw [hpw]; exact hov)
       subst he4
       refine AW.seq ?_
       refine AW.region ?_
       (refine AL.rp rfl rfl (rp_lssT rfl rfl rfl (by first | assumption | omega | (dsimp only; omega))) ?_)
       refine AL.nil ?_
       try simp only [thenS, S.put, List.nil_append, List.cons_append]
       refine AW.seq ?_
       refine AW.condT rfl ?_
       refine AW.skip ?_
       try simp only [thenS, List.nil_append, List.cons_append]
       refine AW.seq ?_
       refine AW.block ?_
       refine AW.seq ?_
       refine AW.region ?_
       refine AL.rp rfl rfl (rp_move rfl rfl) ?_
       refine AL.rp rfl rfl (rp_assign rfl rfl) ?_
       refine AL.nil ?_
       try simp only [thenS, S.put, List.nil_append, List.cons_append]
       refine AW.seq ?_
       refine AW.region ?_
       refine AL.rp rfl rfl (rp_move rfl rfl) ?_
       refine AL.rp rfl rfl (rp_nilCheck rfl rfl) ?_
       refine AL.rp rfl rfl (rp_field_ref Try.underlying52 rfl rfl rfl inf50 (by decide) rfl) ?_
       refine AL.rd rfl rfl (rd_load_famE (m := 1) Try.underlying50 rfl rfl rfl rfl rfl rfl (fun _ => rfl) rfl (by assumption) (by assumption)) ?_
       refine AL.rp rfl rfl (rp_move rfl rfl) ?_
       refine AL.rp rfl rfl (rp_index_own Try.underlying50 inf56 rfl rfl rfl rfl (by first | assumption | omega)) ?_
       refine AL.rp rfl rfl (rp_assign rfl rfl) ?_
       refine AL.nil ?_
       try simp only [thenS, S.put, List.nil_append, List.cons_append]
       refine AW.seq ?_
       refine AW.draw [(0, true), (1, true), (2, true), (3, true), (4, true), (5, true), (6, true), (7, true), (8, true), (9, true), (10, true), (11, true), (12, true), (13, true), (14, true), (15, true), (16, true), (17, true), (18, true), (19, false)] (fun i => !([19] : List Nat).contains i) 20 (by kernel_rfl) (by kernel_rfl) rfl (by kernel_rfl) ?_
       refine AD1.rp rfl rfl rfl (fun _ _ h => h) (rp_move rfl rfl) ?_
       refine AD1.rp rfl rfl rfl (fun _ _ h => h) (rp_nilCheck rfl rfl) ?_
       refine AD1.rp rfl rfl rfl (fun _ _ h => h) (rp_field_ref Try.underlying56 rfl rfl rfl inf3 (by decide) rfl) ?_
       refine AD1.rd rfl rfl rfl (fun _ _ h => h) (rd_load_fit (F := FS) (lits := [_, _, _, _]) (i := i) (j := 2) Try.underlying3 rfl rfl rfl rfl rfl (by assumption) rfl (by assumption) (fs_rows) rfl) ?_
       refine AD1.rp rfl rfl rfl (fun _ _ h => h) (rp_move rfl rfl) ?_
       refine AD1.rp rfl rfl rfl (fun _ _ h => h) (rp_move rfl rfl) ?_
       refine AD1.rp rfl rfl rfl (fun _ _ h => h) (rp_nilCheck rfl rfl) ?_
       refine AD1.rp rfl rfl rfl (fun _ _ h => h) (rp_field_ref Try.underlying56 rfl rfl rfl inf3 (by decide) rfl) ?_
       refine AD1.rd rfl rfl rfl (fun _ _ h => h) (rd_load_fit (F := FS) (lits := [_, _, _, _]) (i := i) (j := 3) Try.underlying3 rfl rfl rfl rfl rfl (by assumption) rfl (by assumption) (fs_rows) rfl) ?_
       refine AD1.rp rfl rfl rfl (fun _ _ h => h) (rp_index_own Try.underlying40 inf3 rfl rfl rfl rfl (by first | assumption | omega)) ?_
       refine AD1.rd rfl rfl rfl (fun _ _ h => h) (rd_load_map Try.underlying3 rfl rfl rfl rfl rfl rfl (by assumption)) ?_
       refine AD1.rp rfl rfl rfl (fun _ _ h => h) (rp_move rfl rfl) ?_
       refine AD1.rp rfl rfl rfl (fun _ _ h => h) (rp_move rfl rfl) ?_
       refine AD1.rp rfl rfl rfl (fun _ _ h => h) (rp_index_own Try.underlying40 inf3 rfl rfl rfl rfl (by first | assumption | omega)) ?_
       refine AD1.rd rfl rfl rfl (fun _ _ h => h) (rd_load_map Try.underlying3 rfl rfl rfl rfl rfl rfl (by assumption)) ?_
       refine AD1.rp rfl rfl rfl (fun _ _ h => h) (rp_sub rfl rfl rfl (by first | omega | (dsimp only; omega))) ?_
       refine AD1.rp rfl rfl rfl (fun _ _ h => h) (rp_add rfl rfl rfl (by first | omega | (dsimp only; omega))) ?_
       refine AD1.rp rfl rfl rfl (fun _ _ h => h) (rp_nilCheck rfl rfl) ?_
       refine AD1.rp rfl rfl rfl (fun _ _ h => h) (rp_field_ref Try.underlying56 rfl rfl rfl inf3 (by decide) rfl) ?_
       refine AD1.go ?_
       refine AD2.go ?_
       refine AD3.st rfl rfl rfl (st_store_fit (F := FS) (lits := [_, _, _, _]) (x0 := ⟨F, A⟩) (rb := 901) (i := i) (j := 2) (⟨F, A.set i ⟨yi, yo, yw + ((dp : Int) - (d : Int)), p⟩⟩) inf3 rfl rfl rfl rfl rfl rfl rfl rfl (by assumption) rfl (by assumption) (by decide) (fs_rows) rfl rfl (by rw [fs_it_set]; rfl)) ?_
       try simp only [S.put, S.newObj, List.map_cons, List.map_nil, junkHi, V.low, V.lowL, low_ownV, Nat.reduceLT, decide_true, decide_false, Bool.and_true, Bool.true_and, if_true, if_false, Bool.false_eq_true, ite_true, ite_false, ↓reduceIte, List.cons_append, List.nil_append]
       refine AD3.nil ?_
       try simp only [thenS, S.put, S.newObj, setL, V.cs, List.length_cons, List.length_nil, List.take_succ_cons, List.take_zero, List.drop_succ_cons, List.drop_zero, List.drop_nil, List.nil_append, List.cons_append, List.append_nil, Nat.zero_add, Nat.reduceAdd, List.map_cons, List.map_nil, List.set_cons_zero, List.set_cons_succ]
       refine AW.seq ?_
       refine AW.region ?_
       refine AL.rp rfl rfl (rp_move rfl rfl) ?_
       refine AL.rp rfl rfl (rp_nilCheck rfl rfl) ?_
       refine AL.rp rfl rfl (rp_field_ref Try.underlying56 rfl rfl rfl inf3 (by decide) rfl) ?_
       refine AL.rd rfl rfl (rd_load_fit (F := FS) (lits := [_, _, _, _, _]) (i := i) (j := 2) Try.underlying3 rfl rfl rfl rfl rfl (by assumption) rfl (by assumption) (fs_rows) rfl) ?_
       (refine AL.rp rfl rfl (rp_gtrT rfl rfl rfl (by first | assumption | omega | (dsimp only; omega))) ?_)
       refine AL.nil ?_
       try simp only [thenS, S.put, List.nil_append, List.cons_append]
       refine AW.condT rfl ?_
       refine AW.seq ?_
       refine AW.region ?_
       refine AL.rp rfl rfl (rp_build (vs := []) (zs := [.d (.p (.int .i64 0)), .d (.p (.slice none 0 0))]) pl24 inf24 rfl rfl rfl rfl) ?_
       refine AL.st rfl (st_store_any inf24 rfl rfl rfl rfl rfl rfl rfl rfl (by first | decide | (simp; done) | (simp; omega)) rfl) ?_
       refine AL.rp rfl rfl (rp_assign rfl rfl) ?_
       refine AL.rp rfl rfl (rp_assign rfl rfl) ?_
       refine AL.nil ?_
       try simp only [thenS, S.put, S.newObj, setL, V.cs, List.length_cons, List.length_nil, List.take_succ_cons, List.take_zero, List.drop_succ_cons, List.drop_zero, List.drop_nil, List.nil_append, List.cons_append, List.append_nil, Nat.zero_add, Nat.reduceAdd, List.map_cons, List.map_nil, List.set_cons_zero, List.set_cons_succ]
       refine AW.ret ?_
       exact ⟨[_, _, _], ⟨⟨2, 0, _, _, rfl, rfl, rfl, Try.underlying24, .inr ⟨rfl, _, _, _, _, inf24, rfl, rfl, rfl⟩⟩, rfl, rfl, trivial⟩, .inl ⟨by decide, rfl⟩, by simp [tupOf, V.pure, V.has, V.hasL]⟩
      ·skip
       refine AW.seq ?_
       refine AW.region ?_
       (refine AL.rp rfl rfl (rp_lssT rfl rfl rfl (by first | assumption | omega | (dsimp only; omega))) ?_)
       refine AL.nil ?_
       try simp only [thenS, S.put, List.nil_append, List.cons_append]
       refine AW.seq ?_
       refine AW.condT rfl ?_
       refine AW.skip ?_
       try simp only [thenS, List.nil_append, List.cons_append]
       refine AW.seq ?_
       refine AW.block ?_
       refine AW.seq ?_
       refine AW.region ?_
       refine AL.rp rfl rfl (rp_move rfl rfl) ?_
       refine AL.rp rfl rfl (rp_assign rfl rfl) ?_
       refine AL.nil ?_
       try simp only [thenS, S.put, List.nil_append, List.cons_append]
       refine AW.seq ?_
       refine AW.region ?_
       refine AL.rp rfl rfl (rp_move rfl rfl) ?_
       refine AL.rp rfl rfl (rp_nilCheck rfl rfl) ?_
       refine AL.rp rfl rfl (rp_field_ref Try.underlying52 rfl rfl rfl inf50 (by decide) rfl) ?_
       refine AL.rd rfl rfl (rd_load_famE (m := 1) Try.underlying50 rfl rfl rfl rfl rfl rfl (fun _ => rfl) rfl (by assumption) (by assumption)) ?_
       refine AL.rp rfl rfl (rp_move rfl rfl) ?_
       refine AL.rp rfl rfl (rp_index_own Try.underlying50 inf56 rfl rfl rfl rfl (by first | assumption | omega)) ?_
       refine AL.rp rfl rfl (rp_assign rfl rfl) ?_
       refine AL.nil ?_
       try simp only [thenS, S.put, List.nil_append, List.cons_append]
       refine AW.seq ?_
       refine AW.draw [(0, true), (1, true), (2, true), (3, true), (4, true), (5, true), (6, true), (7, true), (8, true), (9, true), (10, true), (11, true), (12, true), (13, true), (14, true), (15, true), (16, true), (17, true), (18, true), (19, false)] (fun i => !([19] : List Nat).contains i) 20 (by kernel_rfl) (by kernel_rfl) rfl (by kernel_rfl) ?_
       refine AD1.rp rfl rfl rfl (fun _ _ h => h) (rp_move rfl rfl) ?_
       refine AD1.rp rfl rfl rfl (fun _ _ h => h) (rp_nilCheck rfl rfl) ?_
       refine AD1.rp rfl rfl rfl (fun _ _ h => h) (rp_field_ref Try.underlying56 rfl rfl rfl inf3 (by decide) rfl) ?_
       refine AD1.rd rfl rfl rfl (fun _ _ h => h) (rd_load_fit (F := FS) (lits := [_, _, _, _]) (i := i) (j := 2) Try.underlying3 rfl rfl rfl rfl rfl (by assumption) rfl (by assumption) (fs_rows) rfl) ?_
       refine AD1.rp rfl rfl rfl (fun _ _ h => h) (rp_move rfl rfl) ?_
       refine AD1.rp rfl rfl rfl (fun _ _ h => h) (rp_move rfl rfl) ?_
       refine AD1.rp rfl rfl rfl (fun _ _ h => h) (rp_nilCheck rfl rfl) ?_
       refine AD1.rp rfl rfl rfl (fun _ _ h => h) (rp_field_ref Try.underlying56 rfl rfl rfl inf3 (by decide) rfl) ?_
       refine AD1.rd rfl rfl rfl (fun _ _ h => h) (rd_load_fit (F := FS) (lits := [_, _, _, _]) (i := i) (j := 3) Try.underlying3 rfl rfl rfl rfl rfl (by assumption) rfl (by assumption) (fs_rows) rfl) ?_
       refine AD1.rp rfl rfl rfl (fun _ _ h => h) (rp_index_own Try.underlying40 inf3 rfl rfl rfl rfl (by first | assumption | omega)) ?_
       refine AD1.rd rfl rfl rfl (fun _ _ h => h) (rd_load_map Try.underlying3 rfl rfl rfl rfl rfl rfl (by assumption)) ?_
       refine AD1.rp rfl rfl rfl (fun _ _ h => h) (rp_move rfl rfl) ?_
       refine AD1.rp rfl rfl rfl (fun _ _ h => h) (rp_move rfl rfl) ?_
       refine AD1.rp rfl rfl rfl (fun _ _ h => h) (rp_index_own Try.underlying40 inf3 rfl rfl rfl rfl (by first | assumption | omega)) ?_
       refine AD1.rd rfl rfl rfl (fun _ _ h => h) (rd_load_map Try.underlying3 rfl rfl rfl rfl rfl rfl (by assumption)) ?_
       refine AD1.rp rfl rfl rfl (fun _ _ h => h) (rp_sub rfl rfl rfl (by first | omega | (dsimp only; omega))) ?_
       refine AD1.rp rfl rfl rfl (fun _ _ h => h) (rp_add rfl rfl rfl (by first | omega | (dsimp only; omega))) ?_
       refine AD1.rp rfl rfl rfl (fun _ _ h => h) (rp_nilCheck rfl rfl) ?_
       refine AD1.rp rfl rfl rfl (fun _ _ h => h) (rp_field_ref Try.underlying56 rfl rfl rfl inf3 (by decide) rfl) ?_
       refine AD1.go ?_
       refine AD2.go ?_
       refine AD3.st rfl rfl rfl (st_store_fit (F := FS) (lits := [_, _, _, _]) (x0 := ⟨F, A⟩) (rb := 901) (i := i) (j := 2) (⟨F, A.set i ⟨yi, yo, yw + ((dp : Int) - (d : Int)), p⟩⟩) inf3 rfl rfl rfl rfl rfl rfl rfl rfl (by assumption) rfl (by assumption) (by decide) (fs_rows) rfl rfl (by rw [fs_it_set]; rfl)) ?_
       try simp only [S.put, S.newObj, List.map_cons, List.map_nil, junkHi, V.low, V.lowL, low_ownV, Nat.reduceLT, decide_true, decide_false, Bool.and_true, Bool.true_and, if_true, if_false, Bool.false_eq_true, ite_true, ite_false, ↓reduceIte, List.cons_append, List.nil_append]
       refine AD3.nil ?_
       try simp only [thenS, S.put, S.newObj, setL, V.cs, List.length_cons, List.length_nil, List.take_succ_cons, List.take_zero, List.drop_succ_cons, List.drop_zero, List.drop_nil, List.nil_append, List.cons_append, List.append_nil, Nat.zero_add, Nat.reduceAdd, List.map_cons, List.map_nil, List.set_cons_zero, List.set_cons_succ]
       refine AW.seq ?_
       refine AW.region ?_
       refine AL.rp rfl rfl (rp_move rfl rfl) ?_
       refine AL.rp rfl rfl (rp_nilCheck rfl rfl) ?_
       refine AL.rp rfl rfl (rp_field_ref Try.underlying56 rfl rfl rfl inf3 (by decide) rfl) ?_
       refine AL.rd rfl rfl (rd_load_fit (F := FS) (lits := [_, _, _, _, _]) (i := i) (j := 2) Try.underlying3 rfl rfl rfl rfl rfl (by assumption) rfl (by assumption) (fs_rows) rfl) ?_
       (refine AL.rp rfl rfl (rp_gtrF rfl rfl rfl (by first | assumption | omega | (dsimp only; omega))) ?_)
       refine AL.nil ?_
       try simp only [thenS, S.put, List.nil_append, List.cons_append]
       refine AW.condF rfl ?_
       refine AW.skip ?_
       try simp only [thenS, List.nil_append, List.cons_append]
       refine AW.region ?_
       refine AL.rp rfl rfl (rp_add rfl rfl rfl (by first | omega | (dsimp only; omega))) ?_
       refine AL.rp rfl rfl (rp_move rfl rfl) ?_
       refine AL.nil ?_
       try simp only [thenS, S.put, List.nil_append, List.cons_append]
       refine ⟨_, ?_, ⟨i + 1, A.set i ⟨yi, yo, yw + ((dp : Int) - (d : Int)), p⟩, by omega, by rw [List.length_set]; exact hAl, fun j y hj hy' => ?_, fun j hj => ?_, fun j y hj hy' => ?_, rfl⟩, ?_⟩
       ·rw [List.set_set]; exact (Less.of rfl (by repeat (first | exact trivial | refine ⟨⟨_, rfl, Wk.refl _⟩, ?_⟩ | refine ⟨⟨_, rfl, Wk.nil _ _⟩, ?_⟩ | refine ⟨⟨_, rfl, Wk.junk _⟩, ?_⟩)) (by repeat (first | exact trivial | refine ⟨rfl, ?_⟩ | exact LH.fam | refine LH.skip (by decide) ?_)) rfl)
       ·rw [List.getElem?_set]
        by_cases ej : i = j
        ·subst ej
         rw [hy] at hy'
         simp only [Option.some.injEq] at hy'
         subst hy'
         rw [if_pos rfl, if_pos (by omega), hpa]
        ·rw [if_neg ej]; exact hAd j y (by omega) hy'
       ·rw [List.getElem?_set, if_neg (by omega)]; exact hAu j (by omega)
       ·by_cases ej : i = j
        ·subst ej
         rw [hy] at hy'
         simp only [Option.some.injEq] at hy'
         subst hy'
         rw [hpw]; omega
        ·exact hAk j y (by omega) hy'
       ·simp [S.nat, fnd]; omega
     ·have hAe : A = x.arcs.map (pushA D k) := by
       refine List.ext_getElem? fun j => ?_
       rw [List.getElem?_map]
       by_cases hj : j < la
       ·obtain ⟨y, hy⟩ := get_lt hla hj
        rw [hAd j y (by omega) hy, hy]; rfl
       ·rw [List.getElem?_eq_none (by omega), List.getElem?_eq_none (by omega)]; rfl
      have hS : (⟨F, A⟩ : St) = pushS D k x := by rw [hAe, ← hF]; rfl
      refine AW.seq ?_
      refine AW.region ?_
      (refine AL.rp rfl rfl (rp_lssF rfl rfl rfl (by first | assumption | omega | (dsimp only; omega))) ?_)
      refine AL.nil ?_
      try simp only [thenS, S.put, List.nil_append, List.cons_append]
      refine AW.seq ?_
      refine AW.condF rfl ?_
      refine AW.exit ?_
      try simp only [thenS, inBlockS, ↓reduceIte, Nat.reduceEqDiff, List.nil_append, List.cons_append]
      refine AW.region ?_
      refine AL.rp rfl rfl (rp_add rfl rfl rfl (by first | omega | (dsimp only; omega))) ?_
      refine AL.rp rfl rfl (rp_move rfl rfl) ?_
      refine AL.nil ?_
      try simp only [thenS, S.put, List.nil_append, List.cons_append]
      refine ⟨_, ?_, ⟨k + 1, P.set k ⟨F, A⟩, by omega, by rw [List.length_set]; exact hPl, fun q z hq hz' => ?_, fun q hq => ?_, fun q z y hq hz' hy' => ?_, rfl⟩, ?_⟩
      ·exact (Less.of rfl (by repeat (first | exact trivial | refine ⟨⟨_, rfl, Wk.refl _⟩, ?_⟩ | refine ⟨⟨_, rfl, Wk.nil _ _⟩, ?_⟩ | refine ⟨⟨_, rfl, Wk.junk _⟩, ?_⟩)) (by repeat (first | exact trivial | refine ⟨rfl, ?_⟩ | exact LH.fam | refine LH.skip (by decide) ?_)) rfl)
      ·rw [List.getElem?_set]
       by_cases eq : k = q
       ·subst eq
        rw [hx] at hz'
        simp only [Option.some.injEq] at hz'
        subst hz'
        rw [if_pos rfl, if_pos (by omega), hS]
       ·rw [if_neg eq]; exact hPd q z (by omega) hz'
      ·rw [List.getElem?_set, if_neg (by omega)]; exact hPu q (by omega)
      ·by_cases eq : k = q
       ·subst eq
        rw [hx] at hz'
        simp only [Option.some.injEq] at hz'
        subst hz'
        obtain ⟨j, hj⟩ := List.getElem?_of_mem hy'
        exact hAk j y (by have := (List.getElem?_eq_some_iff.1 hj).1; omega) hj
       ·exact hok q z y (by omega) hz' hy'
      ·simp [S.nat, fnd]; omega
   ·obtain rfl : k = n := by omega
    have hPe : P = pushL D 0 Ts := by
     refine List.ext_getElem? fun j => ?_
     rw [pushL_get, Nat.zero_add]
     by_cases hj : j < k
     ·obtain ⟨x, hx⟩ := get_lt hn hj
      rw [hPd j x hj hx, hx]; rfl
     ·rw [hPu j (by omega), List.getElem?_eq_none (by omega)]; rfl
    obtain ⟨he0, hM, hX⟩ := hgood (fun q x y hx hy => hok q x y (by have := (List.getElem?_eq_some_iff.1 hx).1; omega) hx hy)
    rw [← hPe] at hM
    rw [he0, hM, hX]
    have hPa : ∀ x ∈ P, (FS.it x).length * FS.bt ≤ 140737488355328 := by
     intro x hx
     rw [hPe] at hx
     obtain ⟨j, hj⟩ := List.getElem?_of_mem hx
     rw [pushL_get] at hj
     cases hy : Ts[j]? with
     | none => rw [hy] at hj; cases hj
     | some y =>
      rw [hy] at hj
      simp only [Option.map_some, Option.some.injEq] at hj
      subst hj
      have := hal4 y (List.mem_of_getElem? hy)
      simp [FS, pushS]; omega
    refine AW.seq ?_
    refine AW.region ?_
    (refine AL.rp rfl rfl (rp_lssF rfl rfl rfl (by first | assumption | omega | (dsimp only; omega))) ?_)
    refine AL.nil ?_
    try simp only [thenS, S.put, List.nil_append, List.cons_append]
    refine AW.seq ?_
    refine AW.condF rfl ?_
    refine AW.exit ?_
    try simp only [thenS, inBlockS, ↓reduceIte, Nat.reduceEqDiff, List.nil_append, List.cons_append]
    refine AW.seq ?_
    refine AW.seq ?_
    refine AW.famFreezeN (F := FS) (m := 1) (base := 1000) (L := P) [_, _, _, _] 901 rfl rfl (by rw [hPl]; exact hf.symm) rfl (fun _ => rfl) fs_rows hPa rfl (by simp [V.hasL, V.has]; intro r hr; omega) rfl rfl ?_
    refine AW.freezeH 5 1 32 (P.map FS.data) rfl rfl rfl (by decide) rfl rfl (by rw [List.length_map, hPl]) (by omega) (rowsF (sz := 2) (fun _ => rfl) rfl) ?_
    refine AW.less (s' := ⟨107, [(2, .ref 2 0), (5, .ref 5 0), (7, .own 21 1 k false)], [(2, ⟨24, [.i 0, .nil], false, 0⟩), (5, ⟨24, [.i a, .d (stsD P)], false, 0⟩), (21, ⟨3, D.map V.n, false, 1⟩)], []⟩) (Less.of rfl (by repeat (first | exact trivial | refine ⟨⟨_, rfl, Wk.refl _⟩, ?_⟩ | refine ⟨⟨_, rfl, Wk.nil _ _⟩, ?_⟩ | refine ⟨⟨_, rfl, Wk.junk _⟩, ?_⟩)) (by repeat (first | exact trivial | refine ⟨rfl, ?_⟩ | exact LH.fam | refine LH.skip (by decide) ?_)) rfl) ?_
    by_cases ha0 : a < 0
    ·rw [if_pos ha0]
     refine AW.region ?_
     refine AL.rp rfl rfl (rp_field_ref Try.underlying24 rfl rfl rfl inf3 (by decide) rfl) ?_
     refine AL.rd rfl rfl (rd_load_ref Try.underlying3 rfl rfl rfl rfl rfl rfl) ?_
     (refine AL.rp rfl rfl (rp_lssT rfl rfl rfl (by first | assumption | omega | (dsimp only; omega))) ?_)
     refine AL.nil ?_
     try simp only [thenS, S.put, List.nil_append, List.cons_append]
     refine AW.condT rfl ?_
     refine AW.seq ?_
     refine AW.region ?_
     refine AL.rd rfl rfl (rd_loads_ref Try.underlying24 rfl inf24 rfl rfl rfl rfl rfl rfl) ?_
     refine AL.st rfl (st_store_any inf24 rfl rfl rfl rfl rfl rfl rfl rfl (by first | decide | (simp; done) | (simp; omega)) rfl) ?_
     refine AL.rp rfl rfl (rp_assign rfl rfl) ?_
     refine AL.rp rfl rfl (rp_assign rfl rfl) ?_
     refine AL.nil ?_
     try simp only [thenS, S.put, S.newObj, setL, V.cs, List.length_cons, List.length_nil, List.take_succ_cons, List.take_zero, List.drop_succ_cons, List.drop_zero, List.drop_nil, List.nil_append, List.cons_append, List.append_nil, Nat.zero_add, Nat.reduceAdd, List.map_cons, List.map_nil, List.set_cons_zero, List.set_cons_succ]
     refine AW.ret ?_
     exact ⟨[_, _, _], ⟨⟨2, 0, _, _, rfl, rfl, rfl, Try.underlying24, .inr ⟨rfl, _, _, _, _, inf24, rfl, rfl, rfl⟩⟩, rfl, rfl, trivial⟩, .inr ⟨rfl, rfl⟩, by simp [tupOf, V.pure, V.has, V.hasL]⟩
    ·obtain ⟨p, rfl⟩ : ∃ p : Nat, a = p := ⟨a.toNat, by omega⟩
     obtain ⟨dp, hdp⟩ := get_lt hDl (show p < k by omega)
     have hXd : dAt D ((p : Int)).toNat = (dp : Int) := by simp only [Int.toNat_natCast]; exact dAt_of hdp
     rw [if_neg ha0, hXd]
     refine AW.region ?_
     refine AL.rp rfl rfl (rp_field_ref Try.underlying24 rfl rfl rfl inf3 (by decide) rfl) ?_
     refine AL.rd rfl rfl (rd_load_ref Try.underlying3 rfl rfl rfl rfl rfl rfl) ?_
     (refine AL.rp rfl rfl (rp_lssF rfl rfl rfl (by first | assumption | omega | (dsimp only; omega))) ?_)
     refine AL.nil ?_
     try simp only [thenS, S.put, List.nil_append, List.cons_append]
     refine AW.condF rfl ?_
     refine AW.skip ?_
     try simp only [thenS, List.nil_append, List.cons_append]
     refine AW.seq ?_
     refine AW.drawT (N := ?N10) (l := #[false, false, false, false, false, false, false, false, false]) 9 (by kernel_rfl) rfl rfl ?_ ?_
     rotate_left
     refine AN.rp (i := 1) (l' := #[false, true, false, false, false, false, false, false, false]) rfl rfl rfl (fun _ _ h => h) (by kernel_rfl) rfl (rp_move rfl rfl) ?_
     refine AN.rp (i := 2) (l' := #[false, true, true, false, false, false, false, false, false]) rfl rfl rfl (fun _ _ h => h) (by kernel_rfl) rfl (rp_field_ref Try.underlying24 rfl rfl rfl inf3 (by decide) rfl) ?_
     refine AN.br2 (i := 0) (j := 3) (by kernel_rfl) ?_ ?_
     ·refine BR.mk (l' := #[true, true, true, false, false, false, false, false, false]) rfl rfl rfl ?_
      refine ST.rd rfl (rd_loads_ref Try.underlying24 rfl inf24 rfl rfl rfl rfl rfl rfl) ?_
      refine AN.br2 (i := 3) (j := 6) (by kernel_rfl) ?_ ?_
      ·refine BR.mk (l' := #[true, true, true, true, false, false, false, false, false]) rfl rfl rfl ?_
       refine ST.rd rfl (rd_load_ref Try.underlying3 rfl rfl rfl rfl rfl rfl) ?_
       refine AN.rp (i := 4) (l' := #[true, true, true, true, true, false, false, false, false]) rfl rfl rfl (fun _ _ h => h) (by kernel_rfl) rfl (rp_index_own Try.underlying40 inf3 rfl rfl rfl rfl (by first | assumption | omega)) ?_
       refine AN.br2 (i := 5) (j := 6) (by kernel_rfl) ?_ ?_
       ·refine BR.mk (l' := #[true, true, true, true, true, true, false, false, false]) rfl rfl rfl ?_
        refine ST.rd rfl (rd_load_map Try.underlying3 rfl rfl rfl rfl rfl rfl (by assumption)) ?_
        refine AN.br1 (i := 6) (by kernel_rfl) ?_
        refine BR.mk (l' := #[true, true, true, true, true, true, true, false, false]) rfl rfl rfl ?_
        refine ST.st (st_store_any inf24 rfl rfl rfl rfl rfl rfl rfl rfl (by first | decide | (simp; done) | (simp; omega)) rfl) ?_
        refine AN.rp (i := 7) (l' := #[true, true, true, true, true, true, true, true, false]) rfl rfl rfl (fun _ _ h => h) (by kernel_rfl) rfl (rp_assign rfl rfl) ?_
        refine AN.rp (i := 8) (l' := #[true, true, true, true, true, true, true, true, true]) rfl rfl rfl (fun _ _ h => h) (by kernel_rfl) rfl (rp_assign rfl rfl) ?_
        refine AN.nil (by kernel_rfl) ?_
        show Less _ _
        exact Less.dd _
       ·refine BR.mk (l' := #[true, true, true, true, true, false, true, false, false]) rfl rfl rfl ?_
        refine ST.st (st_store_any inf24 rfl rfl rfl rfl rfl rfl rfl rfl (by first | decide | (simp; done) | (simp; omega)) rfl) ?_
        refine AN.br1 (i := 5) (by kernel_rfl) ?_
        refine BR.mk (l' := #[true, true, true, true, true, true, true, false, false]) rfl rfl rfl ?_
        refine ST.rd rfl (rd_load_map Try.underlying3 rfl rfl rfl rfl rfl rfl (by assumption)) ?_
        refine AN.rp (i := 7) (l' := #[true, true, true, true, true, true, true, true, false]) rfl rfl rfl (fun _ _ h => h) (by kernel_rfl) rfl (rp_assign rfl rfl) ?_
        refine AN.rp (i := 8) (l' := #[true, true, true, true, true, true, true, true, true]) rfl rfl rfl (fun _ _ h => h) (by kernel_rfl) rfl (rp_assign rfl rfl) ?_
        refine AN.nil (by kernel_rfl) ?_
        show Less _ _
        (try simp only [S.put, S.newObj, setL, V.cs, List.length_cons, List.length_nil, List.take_succ_cons, List.take_zero, List.drop_succ_cons, List.drop_zero, List.drop_nil, List.nil_append, List.cons_append, List.append_nil, Nat.zero_add, Nat.reduceAdd, List.map_cons, List.map_nil, List.set_cons_zero, List.set_cons_succ])
        try simp only [S.dd, ddL, List.contains_cons, List.contains_nil, Nat.reduceBEq, beq_self_eq_true, Bool.or_false, Bool.or_true, Bool.false_or, Bool.true_or, Bool.or_self, if_true, if_false, Bool.false_eq_true, ↓reduceIte]
        exact (Less.of rfl (by repeat (first | exact trivial | refine ⟨⟨_, rfl, Wk.refl _⟩, ?_⟩)) (by repeat (first | exact trivial | refine ⟨rfl, ?_⟩)) rfl)
      ·refine BR.mk (l' := #[true, true, true, false, false, false, true, false, false]) rfl rfl rfl ?_
       refine ST.st (st_store_any inf24 rfl rfl rfl rfl rfl rfl rfl rfl (by first | decide | (simp; done) | (simp; omega)) rfl) ?_
       refine AN.br1 (i := 3) (by kernel_rfl) ?_
       refine BR.mk (l' := #[true, true, true, true, false, false, true, false, false]) rfl rfl rfl ?_
       refine ST.rd rfl (rd_load_ref Try.underlying3 rfl rfl rfl rfl rfl rfl) ?_
       refine AN.rp (i := 4) (l' := #[true, true, true, true, true, false, true, false, false]) rfl rfl rfl (fun _ _ h => h) (by kernel_rfl) rfl (rp_index_own Try.underlying40 inf3 rfl rfl rfl rfl (by first | assumption | omega)) ?_
       refine AN.br1 (i := 5) (by kernel_rfl) ?_
       refine BR.mk (l' := #[true, true, true, true, true, true, true, false, false]) rfl rfl rfl ?_
       refine ST.rd rfl (rd_load_map Try.underlying3 rfl rfl rfl rfl rfl rfl (by assumption)) ?_
       refine AN.rp (i := 7) (l' := #[true, true, true, true, true, true, true, true, false]) rfl rfl rfl (fun _ _ h => h) (by kernel_rfl) rfl (rp_assign rfl rfl) ?_
       refine AN.rp (i := 8) (l' := #[true, true, true, true, true, true, true, true, true]) rfl rfl rfl (fun _ _ h => h) (by kernel_rfl) rfl (rp_assign rfl rfl) ?_
       refine AN.nil (by kernel_rfl) ?_
       show Less _ _
       (try simp only [S.put, S.newObj, setL, V.cs, List.length_cons, List.length_nil, List.take_succ_cons, List.take_zero, List.drop_succ_cons, List.drop_zero, List.drop_nil, List.nil_append, List.cons_append, List.append_nil, Nat.zero_add, Nat.reduceAdd, List.map_cons, List.map_nil, List.set_cons_zero, List.set_cons_succ])
       try simp only [S.dd, ddL, List.contains_cons, List.contains_nil, Nat.reduceBEq, beq_self_eq_true, Bool.or_false, Bool.or_true, Bool.false_or, Bool.true_or, Bool.or_self, if_true, if_false, Bool.false_eq_true, ↓reduceIte]
       exact (Less.of rfl (by repeat (first | exact trivial | refine ⟨⟨_, rfl, Wk.refl _⟩, ?_⟩)) (by repeat (first | exact trivial | refine ⟨rfl, ?_⟩)) rfl)
     ·refine BR.mk (l' := #[false, true, true, true, false, false, false, false, false]) rfl rfl rfl ?_
      refine ST.rd rfl (rd_load_ref Try.underlying3 rfl rfl rfl rfl rfl rfl) ?_
      refine AN.rp (i := 4) (l' := #[false, true, true, true, true, false, false, false, false]) rfl rfl rfl (fun _ _ h => h) (by kernel_rfl) rfl (rp_index_own Try.underlying40 inf3 rfl rfl rfl rfl (by first | assumption | omega)) ?_
      refine AN.br2 (i := 0) (j := 5) (by kernel_rfl) ?_ ?_
      ·refine BR.mk (l' := #[true, true, true, true, true, false, false, false, false]) rfl rfl rfl ?_
       refine ST.rd rfl (rd_loads_ref Try.underlying24 rfl inf24 rfl rfl rfl rfl rfl rfl) ?_
       refine AN.br2 (i := 5) (j := 6) (by kernel_rfl) ?_ ?_
       ·refine BR.mk (l' := #[true, true, true, true, true, true, false, false, false]) rfl rfl rfl ?_
        refine ST.rd rfl (rd_load_map Try.underlying3 rfl rfl rfl rfl rfl rfl (by assumption)) ?_
        refine AN.br1 (i := 6) (by kernel_rfl) ?_
        refine BR.mk (l' := #[true, true, true, true, true, true, true, false, false]) rfl rfl rfl ?_
        refine ST.st (st_store_any inf24 rfl rfl rfl rfl rfl rfl rfl rfl (by first | decide | (simp; done) | (simp; omega)) rfl) ?_
        refine AN.rp (i := 7) (l' := #[true, true, true, true, true, true, true, true, false]) rfl rfl rfl (fun _ _ h => h) (by kernel_rfl) rfl (rp_assign rfl rfl) ?_
        refine AN.rp (i := 8) (l' := #[true, true, true, true, true, true, true, true, true]) rfl rfl rfl (fun _ _ h => h) (by kernel_rfl) rfl (rp_assign rfl rfl) ?_
        refine AN.nil (by kernel_rfl) ?_
        show Less _ _
        (try simp only [S.put, S.newObj, setL, V.cs, List.length_cons, List.length_nil, List.take_succ_cons, List.take_zero, List.drop_succ_cons, List.drop_zero, List.drop_nil, List.nil_append, List.cons_append, List.append_nil, Nat.zero_add, Nat.reduceAdd, List.map_cons, List.map_nil, List.set_cons_zero, List.set_cons_succ])
        try simp only [S.dd, ddL, List.contains_cons, List.contains_nil, Nat.reduceBEq, beq_self_eq_true, Bool.or_false, Bool.or_true, Bool.false_or, Bool.true_or, Bool.or_self, if_true, if_false, Bool.false_eq_true, ↓reduceIte]
        exact (Less.of rfl (by repeat (first | exact trivial | refine ⟨⟨_, rfl, Wk.refl _⟩, ?_⟩)) (by repeat (first | exact trivial | refine ⟨rfl, ?_⟩)) rfl)
       ·refine BR.mk (l' := #[true, true, true, true, true, false, true, false, false]) rfl rfl rfl ?_
        refine ST.st (st_store_any inf24 rfl rfl rfl rfl rfl rfl rfl rfl (by first | decide | (simp; done) | (simp; omega)) rfl) ?_
        refine AN.br1 (i := 5) (by kernel_rfl) ?_
        refine BR.mk (l' := #[true, true, true, true, true, true, true, false, false]) rfl rfl rfl ?_
        refine ST.rd rfl (rd_load_map Try.underlying3 rfl rfl rfl rfl rfl rfl (by assumption)) ?_
        refine AN.rp (i := 7) (l' := #[true, true, true, true, true, true, true, true, false]) rfl rfl rfl (fun _ _ h => h) (by kernel_rfl) rfl (rp_assign rfl rfl) ?_
        refine AN.rp (i := 8) (l' := #[true, true, true, true, true, true, true, true, true]) rfl rfl rfl (fun _ _ h => h) (by kernel_rfl) rfl (rp_assign rfl rfl) ?_
        refine AN.nil (by kernel_rfl) ?_
        show Less _ _
        (try simp only [S.put, S.newObj, setL, V.cs, List.length_cons, List.length_nil, List.take_succ_cons, List.take_zero, List.drop_succ_cons, List.drop_zero, List.drop_nil, List.nil_append, List.cons_append, List.append_nil, Nat.zero_add, Nat.reduceAdd, List.map_cons, List.map_nil, List.set_cons_zero, List.set_cons_succ])
        try simp only [S.dd, ddL, List.contains_cons, List.contains_nil, Nat.reduceBEq, beq_self_eq_true, Bool.or_false, Bool.or_true, Bool.false_or, Bool.true_or, Bool.or_self, if_true, if_false, Bool.false_eq_true, ↓reduceIte]
        exact (Less.of rfl (by repeat (first | exact trivial | refine ⟨⟨_, rfl, Wk.refl _⟩, ?_⟩)) (by repeat (first | exact trivial | refine ⟨rfl, ?_⟩)) rfl)
      ·refine BR.mk (l' := #[false, true, true, true, true, true, false, false, false]) rfl rfl rfl ?_
       refine ST.rd rfl (rd_load_map Try.underlying3 rfl rfl rfl rfl rfl rfl (by assumption)) ?_
       refine AN.br1 (i := 0) (by kernel_rfl) ?_
       refine BR.mk (l' := #[true, true, true, true, true, true, false, false, false]) rfl rfl rfl ?_
       refine ST.rd rfl (rd_loads_ref Try.underlying24 rfl inf24 rfl rfl rfl rfl rfl rfl) ?_
       refine AN.br1 (i := 6) (by kernel_rfl) ?_
       refine BR.mk (l' := #[true, true, true, true, true, true, true, false, false]) rfl rfl rfl ?_
       refine ST.st (st_store_any inf24 rfl rfl rfl rfl rfl rfl rfl rfl (by first | decide | (simp; done) | (simp; omega)) rfl) ?_
       refine AN.rp (i := 7) (l' := #[true, true, true, true, true, true, true, true, false]) rfl rfl rfl (fun _ _ h => h) (by kernel_rfl) rfl (rp_assign rfl rfl) ?_
       refine AN.rp (i := 8) (l' := #[true, true, true, true, true, true, true, true, true]) rfl rfl rfl (fun _ _ h => h) (by kernel_rfl) rfl (rp_assign rfl rfl) ?_
       refine AN.nil (by kernel_rfl) ?_
       show Less _ _
       (try simp only [S.put, S.newObj, setL, V.cs, List.length_cons, List.length_nil, List.take_succ_cons, List.take_zero, List.drop_succ_cons, List.drop_zero, List.drop_nil, List.nil_append, List.cons_append, List.append_nil, Nat.zero_add, Nat.reduceAdd, List.map_cons, List.map_nil, List.set_cons_zero, List.set_cons_succ])
       try simp only [S.dd, ddL, List.contains_cons, List.contains_nil, Nat.reduceBEq, beq_self_eq_true, Bool.or_false, Bool.or_true, Bool.false_or, Bool.true_or, Bool.or_self, if_true, if_false, Bool.false_eq_true, ↓reduceIte]
       exact (Less.of rfl (by repeat (first | exact trivial | refine ⟨⟨_, rfl, Wk.refl _⟩, ?_⟩)) (by repeat (first | exact trivial | refine ⟨rfl, ?_⟩)) rfl)
     (try simp only [S.put, S.newObj, setL, V.cs, List.length_cons, List.length_nil, List.take_succ_cons, List.take_zero, List.drop_succ_cons, List.drop_zero, List.drop_nil, List.nil_append, List.cons_append, List.append_nil, Nat.zero_add, Nat.reduceAdd, List.map_cons, List.map_nil, List.set_cons_zero, List.set_cons_succ])
     try simp only [S.dd, ddL, List.contains_cons, List.contains_nil, Nat.reduceBEq, beq_self_eq_true, Bool.or_false, Bool.or_true, Bool.false_or, Bool.true_or, Bool.or_self, if_true, if_false, Bool.false_eq_true, ↓reduceIte]
     try simp only [thenS, S.put, S.newObj, setL, V.cs, List.length_cons, List.length_nil, List.take_succ_cons, List.take_zero, List.drop_succ_cons, List.drop_zero, List.drop_nil, List.nil_append, List.cons_append, List.append_nil, Nat.zero_add, Nat.reduceAdd, List.map_cons, List.map_nil, List.set_cons_zero, List.set_cons_succ]
     refine AW.ret ?_
     exact ⟨[_, _, _], ⟨⟨2, 0, _, _, rfl, rfl, rfl, Try.underlying24, .inr ⟨rfl, _, _, _, _, inf24, rfl, rfl, rfl⟩⟩, rfl, rfl, trivial⟩, .inr ⟨rfl, rfl⟩, by simp [tupOf, V.pure, V.has, V.hasL]⟩
  ·have hcon := am_Trim_ok h0
   have hends := resI_ne (am_Ends0 (trimM m)) h1
   rw [pushE_dis h0 h1]
   obtain ⟨e, he⟩ : ∃ e, disE (enD (trimM m)) (trimM m) = e := ⟨_, rfl⟩
   rw [he] at h1 hends ⊢
   obtain ⟨st, sts⟩ := m
   obtain ⟨⟨a, Ts⟩, hT⟩ : ∃ T, trimM ⟨st, sts⟩ = T := ⟨_, rfl⟩
   rw [hT] at hcon hends
   refine Fn.intro (n := 107) ⟨Try.func19, rfl, rfl, rfl, rfl⟩ (by simp [V.pure, V.has, V.hasL]) (by simp) fun w0 out => ?_
   refine AW.seq ?_
   refine AW.region ?_
   refine AL.sm rfl (sm_box 1 rfl rfl rfl rfl rfl) ?_
   refine AL.sm rfl (sm_alloc (l := [.d (.p (.int .i64 0)), .d (.p (.slice none 0 0))]) 2 inf24 rfl rfl rfl rfl) ?_
   refine AL.rp rfl rfl (rp_assign rfl rfl) ?_
   refine AL.rp rfl rfl (rp_assign rfl rfl) ?_
   refine AL.nil ?_
   try simp only [thenS, S.put, S.newObj, setL, V.cs, List.length_cons, List.length_nil, List.take_succ_cons, List.take_zero, List.drop_succ_cons, List.drop_zero, List.drop_nil, List.nil_append, List.cons_append, List.append_nil, Nat.zero_add, Nat.reduceAdd, List.map_cons, List.map_nil, List.set_cons_zero, List.set_cons_succ, enum]
   refine AW.seq ?_
   refine AW.region ?_
   refine AL.rd rfl rfl (rd_loads_ref Try.underlying24 rfl inf24 rfl rfl rfl rfl rfl rfl) ?_
   refine AL.call (post := ?pc10) rfl (sm_call (args := [_]) ?hc10 ⟨Try.func55, rfl, rfl, rfl, rfl⟩ rfl rfl rfl rfl) ?_
   case hc10 => exact hcon
   rintro _ rfl -
   try dsimp only
   refine AL.rp rfl rfl (rp_move rfl rfl) ?_
   refine AL.rp rfl rfl (rp_extract rfl rfl rfl) ?_
   refine AL.rp rfl rfl (rp_extract rfl rfl rfl) ?_
   refine AL.sm rfl (sm_alloc (l := [.d (.p (.int .i64 0)), .d (.p (.slice none 0 0))]) 5 inf24 rfl rfl rfl rfl) ?_
   refine AL.st rfl (st_store_any inf24 rfl rfl rfl rfl rfl rfl rfl rfl (by first | decide | (simp; done) | (simp; omega)) rfl) ?_
   refine AL.rp rfl rfl (rp_assign rfl rfl) ?_
   refine AL.nil ?_
   try simp only [thenS, S.put, S.newObj, setL, V.cs, List.length_cons, List.length_nil, List.take_succ_cons, List.take_zero, List.drop_succ_cons, List.drop_zero, List.drop_nil, List.nil_append, List.cons_append, List.append_nil, Nat.zero_add, Nat.reduceAdd, List.map_cons, List.map_nil, List.set_cons_zero, List.set_cons_succ]
   refine AW.seq ?_
   refine AW.seq ?_
   refine AW.region ?_
   refine AL.rp rfl rfl (rp_move rfl rfl) ?_
   (refine AL.rp rfl rfl (rp_neqF rfl rfl rfl (by first | assumption | omega | (dsimp only; omega))) ?_)
   refine AL.nil ?_
   try simp only [thenS, S.put, List.nil_append, List.cons_append]
   refine AW.condF rfl ?_
   refine AW.skip ?_
   try simp only [thenS, List.nil_append, List.cons_append]
   refine AW.seq ?_
   refine AW.region ?_
   refine AL.rd rfl rfl (rd_loads_ref Try.underlying24 rfl inf24 rfl rfl rfl rfl rfl rfl) ?_
   refine AL.call (post := ?pc11) rfl (sm_call (args := [_]) ?hc11 ⟨Try.func56, rfl, rfl, rfl, rfl⟩ rfl rfl rfl rfl) ?_
   case hc11 => exact hends
   rintro _ rfl -
   try dsimp only
   refine AL.rp rfl rfl (rp_move rfl rfl) ?_
   refine AL.rp rfl rfl (rp_extract rfl rfl rfl) ?_
   refine AL.rp rfl rfl (rp_extract rfl rfl rfl) ?_
   refine AL.rp rfl rfl (rp_assign rfl rfl) ?_
   refine AL.rp rfl rfl (rp_assign rfl rfl) ?_
   refine AL.nil ?_
   try simp only [thenS, S.put, S.newObj, setL, V.cs, List.length_cons, List.length_nil, List.take_succ_cons, List.take_zero, List.drop_succ_cons, List.drop_zero, List.drop_nil, List.nil_append, List.cons_append, List.append_nil, Nat.zero_add, Nat.reduceAdd, List.map_cons, List.map_nil, List.set_cons_zero, List.set_cons_succ]
   refine AW.seq ?_
   refine AW.seq ?_
   refine AW.region ?_
   refine AL.rp rfl rfl (rp_move rfl rfl) ?_
   (refine AL.rp rfl rfl (rp_neqT rfl rfl rfl (by first | assumption | omega | (dsimp only; omega))) ?_)
   refine AL.nil ?_
   try simp only [thenS, S.put, List.nil_append, List.cons_append]
   refine AW.condT rfl ?_
   refine AW.seq ?_
   refine AW.region ?_
   refine AL.rp rfl rfl (rp_build (vs := []) (zs := [.d (.p (.int .i64 0)), .d (.p (.slice none 0 0))]) pl24 inf24 rfl rfl rfl rfl) ?_
   refine AL.rp rfl rfl (rp_move rfl rfl) ?_
   refine AL.st rfl (st_store_any inf24 rfl rfl rfl rfl rfl rfl rfl rfl (by first | decide | (simp; done) | (simp; omega)) rfl) ?_
   refine AL.rp rfl rfl (rp_assign rfl rfl) ?_
   refine AL.rp rfl rfl (rp_assign rfl rfl) ?_
   refine AL.nil ?_
   try simp only [thenS, S.put, S.newObj, setL, V.cs, List.length_cons, List.length_nil, List.take_succ_cons, List.take_zero, List.drop_succ_cons, List.drop_zero, List.drop_nil, List.nil_append, List.cons_append, List.append_nil, Nat.zero_add, Nat.reduceAdd, List.map_cons, List.map_nil, List.set_cons_zero, List.set_cons_succ]
   refine AW.ret ?_
   exact ⟨[_, _, _], ⟨⟨2, 0, _, _, rfl, rfl, rfl, Try.underlying24, .inr ⟨rfl, _, _, _, _, inf24, rfl, rfl, rfl⟩⟩, rfl, rfl, trivial⟩, .inl ⟨h1, rfl⟩, by simp [tupOf, V.pure, V.has, V.hasL]⟩
 ·have hcon := am_Trim_err h0
  rw [pushE_mach h0]
  obtain ⟨st, sts⟩ := m
  obtain ⟨e, he⟩ : ∃ e, machE ⟨st, sts⟩ = e := ⟨_, rfl⟩
  rw [he] at h0 hcon ⊢
  refine Fn.intro (n := 107) ⟨Try.func19, rfl, rfl, rfl, rfl⟩ (by simp [V.pure, V.has, V.hasL]) (by simp) fun w0 out => ?_
  refine AW.seq ?_
  refine AW.region ?_
  refine AL.sm rfl (sm_box 1 rfl rfl rfl rfl rfl) ?_
  refine AL.sm rfl (sm_alloc (l := [.d (.p (.int .i64 0)), .d (.p (.slice none 0 0))]) 2 inf24 rfl rfl rfl rfl) ?_
  refine AL.rp rfl rfl (rp_assign rfl rfl) ?_
  refine AL.rp rfl rfl (rp_assign rfl rfl) ?_
  refine AL.nil ?_
  try simp only [thenS, S.put, S.newObj, setL, V.cs, List.length_cons, List.length_nil, List.take_succ_cons, List.take_zero, List.drop_succ_cons, List.drop_zero, List.drop_nil, List.nil_append, List.cons_append, List.append_nil, Nat.zero_add, Nat.reduceAdd, List.map_cons, List.map_nil, List.set_cons_zero, List.set_cons_succ, enum]
  refine AW.seq ?_
  refine AW.region ?_
  refine AL.rd rfl rfl (rd_loads_ref Try.underlying24 rfl inf24 rfl rfl rfl rfl rfl rfl) ?_
  refine AL.call (post := ?pc12) rfl (sm_call (args := [_]) ?hc12 ⟨Try.func55, rfl, rfl, rfl, rfl⟩ rfl rfl rfl rfl) ?_
  case hc12 => exact hcon
  rintro _ rfl -
  try dsimp only
  refine AL.rp rfl rfl (rp_move rfl rfl) ?_
  refine AL.rp rfl rfl (rp_extract rfl rfl rfl) ?_
  refine AL.rp rfl rfl (rp_extract rfl rfl rfl) ?_
  refine AL.sm rfl (sm_alloc (l := [.d (.p (.int .i64 0)), .d (.p (.slice none 0 0))]) 5 inf24 rfl rfl rfl rfl) ?_
  refine AL.st rfl (st_store_any inf24 rfl rfl rfl rfl rfl rfl rfl rfl (by first | decide | (simp; done) | (simp; omega)) rfl) ?_
  refine AL.rp rfl rfl (rp_assign rfl rfl) ?_
  refine AL.nil ?_
  try simp only [thenS, S.put, S.newObj, setL, V.cs, List.length_cons, List.length_nil, List.take_succ_cons, List.take_zero, List.drop_succ_cons, List.drop_zero, List.drop_nil, List.nil_append, List.cons_append, List.append_nil, Nat.zero_add, Nat.reduceAdd, List.map_cons, List.map_nil, List.set_cons_zero, List.set_cons_succ]
  refine AW.seq ?_
  refine AW.seq ?_
  refine AW.region ?_
  refine AL.rp rfl rfl (rp_move rfl rfl) ?_
  (refine AL.rp rfl rfl (rp_neqT rfl rfl rfl (by first | assumption | omega | (dsimp only; omega))) ?_)
  refine AL.nil ?_
  try simp only [thenS, S.put, List.nil_append, List.cons_append]
  refine AW.condT rfl ?_
  refine AW.seq ?_
  refine AW.region ?_
  refine AL.rp rfl rfl (rp_build (vs := []) (zs := [.d (.p (.int .i64 0)), .d (.p (.slice none 0 0))]) pl24 inf24 rfl rfl rfl rfl) ?_
  refine AL.rp rfl rfl (rp_move rfl rfl) ?_
  refine AL.st rfl (st_store_any inf24 rfl rfl rfl rfl rfl rfl rfl rfl (by first | decide | (simp; done) | (simp; omega)) rfl) ?_
  refine AL.rp rfl rfl (rp_assign rfl rfl) ?_
  refine AL.rp rfl rfl (rp_assign rfl rfl) ?_
  refine AL.nil ?_
  try simp only [thenS, S.put, S.newObj, setL, V.cs, List.length_cons, List.length_nil, List.take_succ_cons, List.take_zero, List.drop_succ_cons, List.drop_zero, List.drop_nil, List.nil_append, List.cons_append, List.append_nil, Nat.zero_add, Nat.reduceAdd, List.map_cons, List.map_nil, List.set_cons_zero, List.set_cons_succ]
  refine AW.ret ?_
  exact ⟨[_, _, _], ⟨⟨2, 0, _, _, rfl, rfl, rfl, Try.underlying24, .inr ⟨rfl, _, _, _, _, inf24, rfl, rfl, rfl⟩⟩, rfl, rfl, trivial⟩, .inl ⟨h0, rfl⟩, by simp [tupOf, V.pure, V.has, V.hasL]⟩
theorem am_Push (m : Mach) : Fn Try.prog 19 [mV m] (fun v => v = .tup [mV (pushM m), .i (pushV m), .i (pushE m)]) := (am_Push0 m).wkS (resQ_wk push_none)
end Go.Proofs.Ytjbldphpkkmdpaa
