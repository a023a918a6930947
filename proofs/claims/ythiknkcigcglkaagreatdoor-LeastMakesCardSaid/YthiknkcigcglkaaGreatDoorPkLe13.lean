/- Part 13 of what the law LeastMakes rests on. -/
import Derived.Test.YthiknkcigcglkaaGreatDoorPkLe1
import Derived.Test.YthiknkcigcglkaaGreatDoorPkLe2
import Derived.Test.YthiknkcigcglkaaGreatDoorPkLe3
import Derived.Test.YthiknkcigcglkaaGreatDoorPkLe4
import Derived.Test.YthiknkcigcglkaaGreatDoorPkLe5
import Derived.Test.YthiknkcigcglkaaGreatDoorPkLe6
import Derived.Test.YthiknkcigcglkaaGreatDoorPkLe7
import Derived.Test.YthiknkcigcglkaaGreatDoorPkLe8
import Derived.Test.YthiknkcigcglkaaGreatDoorPkLe9
import Derived.Test.YthiknkcigcglkaaGreatDoorPkLe10
import Derived.Test.YthiknkcigcglkaaGreatDoorPkLe11
import Derived.Test.YthiknkcigcglkaaGreatDoorPkLe12
namespace Go.Proofs.YthiknkcigcglkaaGreatDoor
open Go.RowKit
set_option linter.unusedSimpArgs false
set_option linter.unusedVariables false
set_option maxRecDepth 100000
set_option maxHeartbeats 8000000
theorem fs_rows : ∀ x : St, ∀ l ∈ FS.it x, l.length = FS.sz := by
 intro x l hl
 simp [FS] at hl
 obtain ⟨_, _, rfl⟩ := hl
 rfl
theorem fs_it_set (f : Int) (A : List Ar) (i : Nat) (y : Ar) : FS.it ⟨f, A.set i y⟩ = (FS.it ⟨f, A⟩).set i (arD y) := by simp [FS, List.map_set]
theorem fs_it_get {f : Int} {A : List Ar} {i : Nat} {y : Ar} (h : A[i]? = some y) : (FS.it ⟨f, A⟩)[i]? = some (arD y) := by simp [FS, h]
theorem fs_it_len (f : Int) (A : List Ar) : (FS.it ⟨f, A⟩).length = A.length := by simp [FS]
theorem push_rep {c : Cx} {s : S} {g : Nat → Nat × Nat} {a : Act} {w : World} {st : Int} {n : Nat} {Ts : List St} {lits : List (Nat × Row)} {row : Row} {f : Bool} {xs : Array Operand} (hs : Sim c g s a w) (hx : xs.toList.map s.ev = ([.agg [.i st, .own 901 2 n f]] : List V).map some) (hH : s.H = lits ++ FS.objs 1000 Ts) (hlow : lits.all (fun x => decide (x.1 < 1000)) = true)
  (hr : fnd lits 901 = some row) (hf : row.nil = f) (hc : row.cells = FS.cells 1000 Ts) (hn : Ts.length = n) (hl : n ≤ 60) (ha : ∀ x ∈ Ts, x.arcs.length ≤ 400) : VReps w (fun b => ¬ c.out b) g [mV ⟨st, Ts⟩] (xs.toList.map a.eval) := by
 subst hn
 obtain ⟨h1, h2⟩ := args_eval hs hx
 refine ⟨by simpa using h1, fun j u x hu hx => ?_⟩
 cases j with
 | succ j => simp at hu
 | zero =>
  simp only [List.getElem?_cons_zero, Option.some.injEq] at hu
  subst hu
  have h3 := h2 0 _ x rfl hx
  cases h3 with
  | agg _ cs hl2 hh =>
   refine .agg _ cs hl2 fun j y z hy hz => ?_
   match j, hy with
   | 0, hy =>
    simp only [List.getElem?_cons_zero, Option.some.injEq] at hy
    subst hy
    rw [VRep.p_eq (hh 0 _ z rfl hz)]
    exact .d _ _ (.p _)
   | 1, hy =>
    simp only [List.getElem?_cons_succ, List.getElem?_cons_zero, Option.some.injEq] at hy
    subst hy
    exact fam_rep (F := FS) (m := 1) (base := 1000) (btr := 32) hs hH hlow hr hf hc (fun _ => rfl) rfl zT15 fs_rows (fun x hx => by have := ha x hx; simp [FS]; omega) (hh 1 _ z rfl hz)
   | n + 2, hy => simp at hy
theorem am_Trim_err {m : Mach} (h : machE m ≠ 0) : Fn Tryz.prog 33 [mV m] (fun v => v = .tup [.agg [.i 0, .nil], .i (machE m)]) := (am_Trim0 m).mono fun v hv => by
 rcases hv with ⟨_, hv⟩ | ⟨h1, _⟩
 ·exact hv
 exact absurd h1 h
theorem am_Trim_ok {m : Mach} (h : machE m = 0) : Fn Tryz.prog 33 [mV m] (fun v => v = .tup [mV (trimM m), .i 0]) := (am_Trim0 m).mono fun v hv => by
 rcases hv with ⟨h1, _⟩ | ⟨h1, hv⟩
 ·exact absurd h h1
 rw [hv, h]
theorem am_Push0 (m : Mach) : Fn Tryz.prog 15 [mV m] (fun v => resQ (pushE m) (pushM m) (pushV m) v) := by
 by_cases h0 : machE m = 0
 ·by_cases h1 : disE (enD (trimM m)) (trimM m) = 0
  ·have hcon := am_TrimF m h0
   obtain ⟨hDl, hDb⟩ := disL_facts h1
   have hends := am_EndsO (trimM m) (disE_mach h1) h1
   have hz := machE_zero (disE_mach h1)
   have hover := fun (D : List Nat) (T : Mach) (hT : trimM m = T) (hD : disL (enD T) T = D) (q : Nat) (s : St) (a : Ar) => pushE_over (m := m) (T := T) (D := D) h0 h1 hT hD (q := q) (s := s) (a := a)
   have hgood := fun (D : List Nat) (T : Mach) (hT : trimM m = T) (hD : disL (enD T) T = D) => pushE_ok (m := m) (T := T) (D := D) h0 h1 hT hD
   obtain ⟨T, hT⟩ : ∃ T, trimM m = T := ⟨_, rfl⟩
   obtain ⟨D, hD⟩ : ∃ D, disL (enD T) T = D := ⟨_, rfl⟩
   rw [hT] at hcon hDl hDb hends hz
   rw [hD] at hDl hDb hends
   have hover := hover D T hT hD
   have hgood := hgood D T hT hD
   obtain ⟨e, he⟩ : ∃ e, pushE m = e := ⟨_, rfl⟩
   obtain ⟨M, hM⟩ : ∃ M, pushM m = M := ⟨_, rfl⟩
   obtain ⟨X, hX⟩ : ∃ X, pushV m = X := ⟨_, rfl⟩
   rw [he, hM, hX] at hgood ⊢
   rw [he] at hover
   obtain ⟨st, sts⟩ := m
   obtain ⟨a, Ts⟩ := T
   clear hT hD h1 he hM hX
   obtain ⟨h60, h400, hst, hz⟩ := hz
   simp only at h60 h400 hst hz hDl hcon hends hover hgood
   have hal4 : ∀ x ∈ Ts, x.arcs.length ≤ 400 := fun x hx => Nat.le_trans (arcN_mem Ts x hx) h400
   obtain ⟨n, hn⟩ : ∃ n, Ts.length = n := ⟨_, rfl⟩
   rw [hn] at h60 hst hz hDl hcon hends
   obtain ⟨f, hf⟩ : ∃ f, decide (n = 0) = f := ⟨_, rfl⟩
   rw [hf] at hcon
   refine Fn.intro (n := 107) ⟨Tryz.func15, rfl, rfl, rfl, rfl⟩ zT8 zT16 fun w0 out => ?_
   apply AW.sr
   refine AL.sm rfl (sm_box 1 rfl rfl rfl rfl rfl) ?_
   refine AL.sm rfl (sm_alloc (l := [.d (.p (.int .i64 0)), .d (.p (.slice none 0 0))]) 2 inf24 rfl rfl rfl rfl) ?_
   iterate 2 refine AL.z ?_
   apply AL.nil
   try simp only [nd, setL, V.cs, nz, Nat.reduceAdd, nm, ns, enum]
   apply AW.sr
   refine AL.z ?_
   refine AL.callo (post := ?pc5) rfl (sm_callo (args := [_]) ?hc5 ⟨Tryz.func33, rfl, rfl, rfl, rfl⟩ rfl rfl rfl rfl ?fc5) ?_
   case hc5 => exact hcon
   case fc5 => exact (by rintro _ _ ⟨rfl, rfl⟩; exact clean_fam (b := 900) rfl rfl rfl zT14 zT14)
   rintro _ _ ⟨rfl, rfl⟩
   try dsimp only
   try simp only [S.put, List.cons_append]
   refine AL.less (Less.rot (F := FS) rfl) ?_
   try simp only [List.cons_append, List.nil_append]
   iterate 3 refine AL.z ?_
   refine AL.sm rfl (sm_alloc (l := [.d (.p (.int .i64 0)), .d (.p (.slice none 0 0))]) 5 inf24 rfl (by first | rfl | (simp only [S.clean, S.put, S.newObj, List.all_cons, objs_clean_low, Nat.reduceLT]; simp [S.forget, V.has, V.hasL, junkIf, setL, V.cs, hasL_i, hasL_b, hasL_s, hasL_n, hasL_rep, hasL_flat, hasL_append, cells_hasL_low, has_ownV, hasL_frep, nb1, nb2, nb3, nb4, -List.map_set]; try omega)) rfl rfl) ?_
   refine AL.y ?_
   refine AL.z ?_
   apply AL.nil
   try simp only [nd, setL, V.cs, nz, Nat.reduceAdd, nm, ns]
   apply AW.seq
   apply AW.sr
   iterate 2 refine AL.z ?_
   apply AL.nil
   try simp only [thenS, S.put, List.nil_append, List.cons_append]
   refine AW.condF rfl ?_
   apply AW.skip
   try simp only [thenS, List.nil_append, List.cons_append]
   apply AW.seq
   refine AW.less (s' := ⟨107, [(2, .ref 2 0), (5, .ref 5 0)], [(2, ⟨24, [.i 0, .nil], false, 0⟩), (5, ⟨24, [.i a, .own 901 2 n f], false, 0⟩), (901, ⟨35, FS.cells 1000 Ts, f, 2⟩)] ++ FS.objs 1000 Ts, []⟩) Less.a1 ?_
   simp only [List.cons_append, List.nil_append]
   apply AW.region
   refine AL.z ?_
   refine AL.sm rfl (sm_callF (hends) (by intro v hv; simp only [List.mem_map] at hv; obtain ⟨_, _, rfl⟩ := hv; exact ⟨_, rfl⟩) ⟨Tryz.func34, rfl, rfl, rfl, rfl⟩ rfl rfl (fun g a w hs => push_rep (lits := [_, _, _]) hs rfl rfl rfl rfl rfl rfl hn h60 hal4) rfl ((by first | rfl | (simp only [S.clean, S.put, S.newObj, List.all_cons, objs_clean_low, Nat.reduceLT]; simp [S.forget, V.has, V.hasL, junkIf, setL, V.cs, hasL_i, hasL_b, hasL_s, hasL_n, hasL_rep, hasL_flat, hasL_append, cells_hasL_low, has_ownV, hasL_frep, nb1, nb2, nb3, nb4, -List.map_set]; try omega)))) ?_
   try simp only [S.put]
   iterate 5 refine AL.z ?_
   apply AL.nil
   try simp only [nd, setL, V.cs, nz, Nat.reduceAdd, nm, ns]
   apply AW.seq
   apply AW.sr
   iterate 2 refine AL.z ?_
   apply AL.nil
   try simp only [thenS, S.put, List.nil_append, List.cons_append]
   refine AW.condF rfl ?_
   apply AW.skip
   try simp only [thenS, List.nil_append, List.cons_append]
   apply AW.seq
   apply AW.seq
   refine AW.less (s' := ⟨107, [(2, .ref 2 0), (5, .ref 5 0), (7, .own 21 1 n false)], [(2, ⟨24, [.i 0, .nil], false, 0⟩), (5, ⟨24, [.i a, .own 901 2 n f], false, 0⟩), (21, ⟨3, D.map V.n, false, 1⟩), (901, ⟨35, FS.cells 1000 Ts, f, 2⟩)] ++ FS.objs 1000 Ts, []⟩) Less.a1 ?_
   simp only [List.cons_append, List.nil_append]
   apply AW.region
   iterate 4 refine AL.z ?_
   apply AL.nil
   try simp only [thenS, S.put, List.nil_append, List.cons_append]
   apply AW.block
   refine AW.loop (fun s' => ∃ (k : Nat) (P : List St), k ≤ n ∧ P.length = n ∧ (∀ q x, q < k → Ts[q]? = some x → P[q]? = some (pushS D q x)) ∧ (∀ q, k ≤ q → P[q]? = Ts[q]?) ∧ (∀ q x y, q < k → Ts[q]? = some x → y ∈ x.arcs → pushW D q y ≤ 1000000000) ∧ s' = ⟨107, [(2, .ref 2 0), (5, .ref 5 0), (7, .own 21 1 n false), (32, .i n), (33, .i k)], [(2, ⟨24, [.i 0, .nil], false, 0⟩), (5, ⟨24, [.i a, .own 901 2 n f], false, 0⟩), (21, ⟨3, D.map V.n, false, 1⟩), (901, ⟨35, FS.cells 1000 P, f, 2⟩)] ++ FS.objs 1000 P, []⟩) (fun s' => n - s'.nat 33) ⟨_, ?_, 0, Ts, by omega, hn, (fun q x h => absurd h zT15), (fun q _ => rfl), (fun q x y h => absurd h zT15), rfl⟩ ?_
   ·exact Less.a1
   rintro s' ⟨k, P, hk, hPl, hPd, hPu, hok, rfl⟩
   by_cases hlt : k < n
   ·obtain rfl : f = false := by rw [← hf]; simp; omega
    obtain ⟨x, hx⟩ := get_lt hn hlt
    obtain ⟨d, hd⟩ := get_lt hDl hlt
    have hdb := hDb d (List.mem_of_getElem? hd)
    have hxm := List.mem_of_getElem? hx
    have hxf := (hz x hxm).1
    simp only [finOk, decide_eq_true_eq] at hxf
    have hPk : P[k]? = some x := by rw [hPu k (Nat.le_refl _), hx]
    obtain ⟨la, hla⟩ : ∃ n, x.arcs.length = n := ⟨_, rfl⟩
    have hla4 := hal4 x hxm
    rw [hla] at hla4
    apply AW.sr
    refine AL.z ?_
    apply AL.nil
    try simp only [thenS, S.put, List.nil_append, List.cons_append]
    apply AW.seq
    refine AW.condT rfl ?_
    apply AW.skip
    try simp only [thenS, List.nil_append, List.cons_append]
    apply AW.seq
    apply AW.block
    apply AW.sr
    iterate 2 refine AL.z ?_
    apply AL.nil
    try simp only [thenS, S.put, List.nil_append, List.cons_append]
    apply AW.sr
    iterate 5 refine AL.z ?_
    apply AL.nil
    try simp only [thenS, S.put, List.nil_append, List.cons_append]
    refine AW.seqc (fun s' => s' = ⟨107, [(2, .ref 2 0), (5, .ref 5 0), (7, .own 21 1 n false), (8, .i k), (9, .ref 901 (k * 2)), (32, .i n), (33, .i k)], [(2, ⟨24, [.i 0, .nil], false, 0⟩), (5, ⟨24, [.i a, .own 901 2 n false], false, 0⟩), (21, ⟨3, D.map V.n, false, 1⟩), (901, ⟨35, FS.cells 1000 (P.set k ⟨pushF D k x, x.arcs⟩), false, 2⟩)] ++ FS.objs 1000 (P.set k ⟨pushF D k x, x.arcs⟩), []⟩) ?_ ?_
    ·skip
     by_cases hin : x.fin = 1000000001
     ·have hs0 : P.set k ⟨pushF D k x, x.arcs⟩ = P := by
       rw [pushF_inf hin, ← hin]
       refine List.ext_getElem? fun q => ?_
       rw [List.getElem?_set]
       by_cases e : k = q
       ·subst e; rw [if_pos rfl, hPk, if_pos zT15]
       rw [if_neg e]
      apply AW.sr
      refine AL.z ?_
      refine AL.rp rfl rfl (rp_nilCheck rfl rfl) ?_
      refine AL.z ?_
      refine AL.rd rfl rfl (rd_load_fpre (m := 1) Tryz.underlying3 rfl rfl rfl rfl rfl rfl (fun _ => rfl) rfl zT13 rfl) ?_
      refine AL.z ?_
      apply AL.nil
      try simp only [thenS, S.put, List.nil_append, List.cons_append]
      refine AW.condF rfl ?_
      apply AW.skip
      try simp only [thenS, List.nil_append, List.cons_append]
      refine ⟨_, ?_, rfl⟩
      rw [hs0]; exact Less.a1
     have hpf : pushF D k x = x.fin - (d : Int) := pushF_get hin hd
     apply AW.sr
     refine AL.z ?_
     refine AL.rp rfl rfl (rp_nilCheck rfl rfl) ?_
     refine AL.z ?_
     refine AL.rd rfl rfl (rd_load_fpre (m := 1) Tryz.underlying3 rfl rfl rfl rfl rfl rfl (fun _ => rfl) rfl zT13 rfl) ?_
     refine AL.z ?_
     apply AL.nil
     try simp only [thenS, S.put, List.nil_append, List.cons_append]
     refine AW.condT rfl ?_
     refine AW.draw [(0, true), (1, true), (2, true), (3, true), (4, true), (5, true), (6, true), (7, true), (8, true), (9, true), (10, true), (11, false)] (fun i => !([11] : List Nat).contains i) 12 zT12 zT12 rfl zT12 ?_
     refine AD1.z ?_
     refine AD1.rp rfl rfl rfl (fun _ _ h => h) (rp_nilCheck rfl rfl) ?_
     refine AD1.z ?_
     refine AD1.rd rfl rfl rfl (fun _ _ h => h) (rd_load_fpre (m := 1) Tryz.underlying3 rfl rfl rfl rfl rfl rfl (fun _ => rfl) rfl zT13 rfl) ?_
     iterate 5 refine AD1.z ?_
     refine AD1.rp rfl rfl rfl (fun _ _ h => h) (rp_nilCheck rfl rfl) ?_
     refine AD1.z ?_
     refine AD1.go ?_
     refine AD2.go ?_
     refine AD3.st rfl rfl rfl (st_store_fpre (lits := [_, _, _, _]) (m := 1) (⟨x.fin - (d : Int), x.arcs⟩) inf3 rfl rfl rfl rfl rfl rfl rfl (fun _ => rfl) rfl rfl zT13 zT14 rfl (by rfl) (by rfl)) ?_
     try simp only [S.put, S.newObj, List.map_cons, List.map_nil, junkHi, V.low, V.lowL, low_ownV, Nat.reduceLT, decide_true, decide_false, Bool.and_true, Bool.true_and, if_true, if_false, Bool.false_eq_true, ite_true, ite_false, ↓reduceIte, List.cons_append, List.nil_append]
     refine AD3.nil ?_
     try simp only [nd, setL, V.cs, nz, Nat.reduceAdd, nm, ns]
     refine ⟨_, ?_, rfl⟩
     rw [hpf]; exact Less.a1
    rintro s' rfl
    obtain ⟨F, hF⟩ : ∃ F, pushF D k x = F := ⟨_, rfl⟩
    rw [hF]
    simp only [List.cons_append, List.nil_append]
    have hP1 : (P.set k ⟨F, x.arcs⟩)[k]? = some ⟨F, x.arcs⟩ := List.getElem?_set_self zT15
    have hl1 : (FS.it ⟨F, x.arcs⟩).length = la := by rw [fs_it_len, hla]
    apply AW.sr
    refine AL.z ?_
    refine AL.rp rfl rfl (rp_nilCheck rfl rfl) ?_
    refine AL.z ?_
    refine AL.rd rfl rfl (rd_load_fam (m := 1) Tryz.underlying33 rfl rfl rfl rfl rfl rfl (fun _ => rfl) rfl zT13) ?_
    iterate 2 refine AL.z ?_
    apply AL.nil
    try simp only [thenS, S.put, List.nil_append, List.cons_append]
    apply AW.block
    refine AW.loop (fun s' => ∃ (i : Nat) (A : List Ar), i ≤ la ∧ A.length = la ∧ (∀ j y, j < i → x.arcs[j]? = some y → A[j]? = some (pushA D k y)) ∧ (∀ j, i ≤ j → A[j]? = x.arcs[j]?) ∧ (∀ j y, j < i → x.arcs[j]? = some y → pushW D k y ≤ 1000000000) ∧ s' = ⟨107, [(2, .ref 2 0), (5, .ref 5 0), (7, .own 21 1 n false), (8, .i k), (9, .ref 901 (k * 2)), (32, .i n), (33, .i k), (60, .i la), (61, .i i)], [(2, ⟨24, [.i 0, .nil], false, 0⟩), (5, ⟨24, [.i a, .own 901 2 n false], false, 0⟩), (21, ⟨3, D.map V.n, false, 1⟩), (901, ⟨35, FS.cells 1000 (P.set k ⟨F, A⟩), false, 2⟩)] ++ FS.objs 1000 (P.set k ⟨F, A⟩), []⟩) (fun s' => la - s'.nat 61) ⟨_, ?_, 0, x.arcs, by omega, hla, (fun j y h => absurd h zT15), (fun j _ => rfl), (fun j y h => absurd h zT15), rfl⟩ ?_
    ·rw [hl1]; exact Less.a1
    rintro s' ⟨i, A, hi, hAl, hAd, hAu, hAk, rfl⟩
    have hP1 : (P.set k ⟨F, A⟩)[k]? = some ⟨F, A⟩ := List.getElem?_set_self zT15
    have hl1 : (FS.it ⟨F, A⟩).length = la := by rw [fs_it_len, hAl]
    by_cases hil : i < la
    ·obtain ⟨y, hy⟩ := get_lt hla hil
     have hym := List.mem_of_getElem? hy
     have hyt := (hz x hxm).2 y hym
     have hAi : A[i]? = some y := by rw [hAu i (Nat.le_refl _), hy]
     obtain ⟨yi, yo, yw, yt⟩ := y
     simp only [arOk, decide_eq_true_eq] at hyt
     obtain ⟨p, rfl⟩ : ∃ p : Nat, yt = p := ⟨yt.toNat, by omega⟩
     obtain ⟨dp, hdp⟩ := get_lt hDl (show p < n by omega)
     have hdpb := hDb dp (List.mem_of_getElem? hdp)
     have hit := fs_it_get (f := F) hAi
     have hown : FS.ownV (1000 + k) ⟨F, A⟩ = .own (1000 + k) 4 la false := by
      have h2 : (FS.it ⟨F, A⟩).isEmpty = false := by cases h : FS.it ⟨F, A⟩ with | nil => rw [h] at hl1; simp at hl1; omega | cons => rfl
      simp only [Fam.ownV, hl1, h2]; rfl
     have hpw := pushW_get (i := yi) (o := yo) (w := yw) hdp hd
     have hpa := pushA_get (i := yi) (o := yo) (w := yw) hdp hd
     have hP2 : ((P.set k ⟨F, A⟩).set k ⟨F, A.set i ⟨yi, yo, yw + ((dp : Int) - (d : Int)), p⟩⟩)[k]? = some ⟨F, A.set i ⟨yi, yo, yw + ((dp : Int) - (d : Int)), p⟩⟩ := List.getElem?_set_self (by rw [List.length_set]; omega)
     have hit2 : (FS.it ⟨F, A.set i ⟨yi, yo, yw + ((dp : Int) - (d : Int)), p⟩⟩)[i]? = some (arD ⟨yi, yo, yw + ((dp : Int) - (d : Int)), p⟩) := fs_it_get (List.getElem?_set_self zT15)
     by_cases hov : 1000000000 < yw + ((dp : Int) - (d : Int))
     ·have he4 : e = 4 := hover k x _ hx hym (by rw [hpw]; exact hov)
      subst he4
      apply AW.sr
      refine AL.z ?_
      apply AL.nil
      try simp only [thenS, S.put, List.nil_append, List.cons_append]
      apply AW.seq
      refine AW.condT rfl ?_
      apply AW.skip
      try simp only [thenS, List.nil_append, List.cons_append]
      apply AW.seq
      apply AW.block
      apply AW.sr
      iterate 2 refine AL.z ?_
      apply AL.nil
      try simp only [thenS, S.put, List.nil_append, List.cons_append]
      apply AW.sr
      refine AL.z ?_
      refine AL.rp rfl rfl (rp_nilCheck rfl rfl) ?_
      refine AL.z ?_
      refine AL.rd rfl rfl (rd_load_famE (m := 1) Tryz.underlying33 rfl rfl rfl rfl rfl rfl (fun _ => rfl) rfl zT13 zT13) ?_
      iterate 3 refine AL.z ?_
      apply AL.nil
      try simp only [thenS, S.put, List.nil_append, List.cons_append]
      apply AW.seq
      refine AW.draw [(0, true), (1, true), (2, true), (3, true), (4, true), (5, true), (6, true), (7, true), (8, true), (9, true), (10, true), (11, true), (12, true), (13, true), (14, true), (15, true), (16, true), (17, true), (18, true), (19, false)] (fun i => !([19] : List Nat).contains i) 20 zT12 zT12 rfl zT12 ?_
      refine AD1.z ?_
      refine AD1.rp rfl rfl rfl (fun _ _ h => h) (rp_nilCheck rfl rfl) ?_
      refine AD1.z ?_
      refine AD1.rd rfl rfl rfl (fun _ _ h => h) (rd_load_fit (F := FS) (lits := [_, _, _, _]) (i := i) (j := 2) Tryz.underlying3 rfl rfl rfl rfl rfl zT13 rfl zT13 (fs_rows) rfl) ?_
      iterate 2 refine AD1.z ?_
      refine AD1.rp rfl rfl rfl (fun _ _ h => h) (rp_nilCheck rfl rfl) ?_
      refine AD1.z ?_
      refine AD1.rd rfl rfl rfl (fun _ _ h => h) (rd_load_fit (F := FS) (lits := [_, _, _, _]) (i := i) (j := 3) Tryz.underlying3 rfl rfl rfl rfl rfl zT13 rfl zT13 (fs_rows) rfl) ?_
      iterate 8 refine AD1.z ?_
      refine AD1.rp rfl rfl rfl (fun _ _ h => h) (rp_nilCheck rfl rfl) ?_
      refine AD1.z ?_
      refine AD1.go ?_
      refine AD2.go ?_
      refine AD3.st rfl rfl rfl (st_store_fit (F := FS) (lits := [_, _, _, _]) (x0 := ⟨F, A⟩) (rb := 901) (i := i) (j := 2) (⟨F, A.set i ⟨yi, yo, yw + ((dp : Int) - (d : Int)), p⟩⟩) inf3 rfl rfl rfl rfl rfl rfl rfl rfl zT13 rfl zT13 zT14 (fs_rows) rfl rfl (by rw [fs_it_set]; rfl)) ?_
      try simp only [S.put, S.newObj, List.map_cons, List.map_nil, junkHi, V.low, V.lowL, low_ownV, Nat.reduceLT, decide_true, decide_false, Bool.and_true, Bool.true_and, if_true, if_false, Bool.false_eq_true, ite_true, ite_false, ↓reduceIte, List.cons_append, List.nil_append]
      refine AD3.nil ?_
      try simp only [nd, setL, V.cs, nz, Nat.reduceAdd, nm, ns]
      apply AW.sr
      refine AL.z ?_
      refine AL.rp rfl rfl (rp_nilCheck rfl rfl) ?_
      refine AL.z ?_
      refine AL.rd rfl rfl (rd_load_fit (F := FS) (lits := [_, _, _, _, _]) (i := i) (j := 2) Tryz.underlying3 rfl rfl rfl rfl rfl zT13 rfl zT13 (fs_rows) rfl) ?_
      refine AL.z ?_
      apply AL.nil
      try simp only [thenS, S.put, List.nil_append, List.cons_append]
      refine AW.condT rfl ?_
      apply AW.sr
      refine AL.rp rfl rfl (rp_build (vs := []) (zs := [.d (.p (.int .i64 0)), .d (.p (.slice none 0 0))]) pl24 inf24 rfl rfl rfl rfl) ?_
      refine AL.y ?_
      iterate 2 refine AL.z ?_
      apply AL.nil
      try simp only [nd, setL, V.cs, nz, Nat.reduceAdd, nm, ns]
      apply AW.ret
      exact ⟨[_, _, _], ⟨⟨2, 0, _, _, rfl, rfl, rfl, Tryz.underlying24, .inr ⟨rfl, _, _, _, _, inf24, rfl, rfl, rfl⟩⟩, rfl, rfl, trivial⟩, .inl ⟨by decide, rfl⟩, by simp [tupOf, V.pure, V.has, V.hasL]⟩
     skip
     apply AW.sr
     refine AL.z ?_
     apply AL.nil
     try simp only [thenS, S.put, List.nil_append, List.cons_append]
     apply AW.seq
     refine AW.condT rfl ?_
     apply AW.skip
     try simp only [thenS, List.nil_append, List.cons_append]
     apply AW.seq
     apply AW.block
     apply AW.sr
     iterate 2 refine AL.z ?_
     apply AL.nil
     try simp only [thenS, S.put, List.nil_append, List.cons_append]
     apply AW.sr
     refine AL.z ?_
     refine AL.rp rfl rfl (rp_nilCheck rfl rfl) ?_
     refine AL.z ?_
     refine AL.rd rfl rfl (rd_load_famE (m := 1) Tryz.underlying33 rfl rfl rfl rfl rfl rfl (fun _ => rfl) rfl zT13 zT13) ?_
     iterate 3 refine AL.z ?_
     apply AL.nil
     try simp only [thenS, S.put, List.nil_append, List.cons_append]
     apply AW.seq
     refine AW.draw [(0, true), (1, true), (2, true), (3, true), (4, true), (5, true), (6, true), (7, true), (8, true), (9, true), (10, true), (11, true), (12, true), (13, true), (14, true), (15, true), (16, true), (17, true), (18, true), (19, false)] (fun i => !([19] : List Nat).contains i) 20 zT12 zT12 rfl zT12 ?_
     refine AD1.z ?_
     refine AD1.rp rfl rfl rfl (fun _ _ h => h) (rp_nilCheck rfl rfl) ?_
     refine AD1.z ?_
     refine AD1.rd rfl rfl rfl (fun _ _ h => h) (rd_load_fit (F := FS) (lits := [_, _, _, _]) (i := i) (j := 2) Tryz.underlying3 rfl rfl rfl rfl rfl zT13 rfl zT13 (fs_rows) rfl) ?_
     iterate 2 refine AD1.z ?_
     refine AD1.rp rfl rfl rfl (fun _ _ h => h) (rp_nilCheck rfl rfl) ?_
     refine AD1.z ?_
     refine AD1.rd rfl rfl rfl (fun _ _ h => h) (rd_load_fit (F := FS) (lits := [_, _, _, _]) (i := i) (j := 3) Tryz.underlying3 rfl rfl rfl rfl rfl zT13 rfl zT13 (fs_rows) rfl) ?_
     iterate 8 refine AD1.z ?_
     refine AD1.rp rfl rfl rfl (fun _ _ h => h) (rp_nilCheck rfl rfl) ?_
     refine AD1.z ?_
     refine AD1.go ?_
     refine AD2.go ?_
     refine AD3.st rfl rfl rfl (st_store_fit (F := FS) (lits := [_, _, _, _]) (x0 := ⟨F, A⟩) (rb := 901) (i := i) (j := 2) (⟨F, A.set i ⟨yi, yo, yw + ((dp : Int) - (d : Int)), p⟩⟩) inf3 rfl rfl rfl rfl rfl rfl rfl rfl zT13 rfl zT13 zT14 (fs_rows) rfl rfl (by rw [fs_it_set]; rfl)) ?_
     try simp only [S.put, S.newObj, List.map_cons, List.map_nil, junkHi, V.low, V.lowL, low_ownV, Nat.reduceLT, decide_true, decide_false, Bool.and_true, Bool.true_and, if_true, if_false, Bool.false_eq_true, ite_true, ite_false, ↓reduceIte, List.cons_append, List.nil_append]
     refine AD3.nil ?_
     try simp only [nd, setL, V.cs, nz, Nat.reduceAdd, nm, ns]
     apply AW.sr
     refine AL.z ?_
     refine AL.rp rfl rfl (rp_nilCheck rfl rfl) ?_
     refine AL.z ?_
     refine AL.rd rfl rfl (rd_load_fit (F := FS) (lits := [_, _, _, _, _]) (i := i) (j := 2) Tryz.underlying3 rfl rfl rfl rfl rfl zT13 rfl zT13 (fs_rows) rfl) ?_
     refine AL.z ?_
     apply AL.nil
     try simp only [thenS, S.put, List.nil_append, List.cons_append]
     refine AW.condF rfl ?_
     apply AW.skip
     try simp only [thenS, List.nil_append, List.cons_append]
     apply AW.region
     iterate 2 refine AL.z ?_
     apply AL.nil
     try simp only [thenS, S.put, List.nil_append, List.cons_append]
     refine ⟨_, ?_, ⟨i + 1, A.set i ⟨yi, yo, yw + ((dp : Int) - (d : Int)), p⟩, by omega, by rw [List.length_set]; exact hAl, fun j y hj hy' => ?_, fun j hj => ?_, fun j y hj hy' => ?_, rfl⟩, ?_⟩
     ·rw [List.set_set]; exact Less.a1
     ·rw [List.getElem?_set]
      by_cases ej : i = j
      ·subst ej
       rw [hy] at hy'
       simp only [Option.some.injEq] at hy'
       subst hy'
       rw [if_pos rfl, if_pos zT15, hpa]
      rw [if_neg ej]; exact hAd j y zT15 hy'
     ·rw [List.getElem?_set, if_neg zT15]; exact hAu j zT15
     ·by_cases ej : i = j
      ·subst ej
       rw [hy] at hy'
       simp only [Option.some.injEq] at hy'
       subst hy'
       rw [hpw]; omega
      exact hAk j y zT15 hy'
     simp [S.nat, fnd]; omega
    have hAe : A = x.arcs.map (pushA D k) := by
     refine List.ext_getElem? fun j => ?_
     rw [List.getElem?_map]
     by_cases hj : j < la
     ·obtain ⟨y, hy⟩ := get_lt hla hj
      rw [hAd j y zT15 hy, hy]; rfl
     rw [List.getElem?_eq_none zT15, List.getElem?_eq_none zT15]; rfl
    have hS : (⟨F, A⟩ : St) = pushS D k x := by rw [hAe, ← hF]; rfl
    apply AW.sr
    refine AL.z ?_
    apply AL.nil
    try simp only [thenS, S.put, List.nil_append, List.cons_append]
    apply AW.seq
    refine AW.condF rfl ?_
    refine AW.exit ?_
    try simp only [thenS, inBlockS, ↓reduceIte, Nat.reduceEqDiff, List.nil_append, List.cons_append]
    apply AW.region
    iterate 2 refine AL.z ?_
    apply AL.nil
    try simp only [thenS, S.put, List.nil_append, List.cons_append]
    refine ⟨_, ?_, ⟨k + 1, P.set k ⟨F, A⟩, by omega, by rw [List.length_set]; exact hPl, fun q z hq hz' => ?_, fun q hq => ?_, fun q z y hq hz' hy' => ?_, rfl⟩, ?_⟩
    ·exact Less.a1
    ·rw [List.getElem?_set]
     by_cases eq : k = q
     ·subst eq
      rw [hx] at hz'
      simp only [Option.some.injEq] at hz'
      subst hz'
      rw [if_pos rfl, if_pos zT15, hS]
     rw [if_neg eq]; exact hPd q z zT15 hz'
    ·rw [List.getElem?_set, if_neg zT15]; exact hPu q zT15
    ·by_cases eq : k = q
     ·subst eq
      rw [hx] at hz'
      simp only [Option.some.injEq] at hz'
      subst hz'
      obtain ⟨j, hj⟩ := List.getElem?_of_mem hy'
      exact hAk j y (by have := (List.getElem?_eq_some_iff.1 hj).1; omega) hj
     exact hok q z y zT15 hz' hy'
    simp [S.nat, fnd]; omega
   obtain rfl : k = n := by omega
   have hPe : P = pushL D 0 Ts := by
    refine List.ext_getElem? fun j => ?_
    rw [pushL_get, Nat.zero_add]
    by_cases hj : j < k
    ·obtain ⟨x, hx⟩ := get_lt hn hj
     rw [hPd j x hj hx, hx]; rfl
    rw [hPu j zT15, List.getElem?_eq_none zT15]; rfl
   obtain ⟨he0, hM, hX⟩ := hgood (fun q x y hx hy => hok q x y (by have := (List.getElem?_eq_some_iff.1 hx).1; omega) hx hy)
   rw [← hPe] at hM
   rw [he0, hM, hX]
   have hPa : ∀ x ∈ P, (FS.it x).length * FS.bt ≤ 140737488355328 := by
    intro x hx
    rw [hPe] at hx
    obtain ⟨j, hj⟩ := List.getElem?_of_mem hx
    rw [pushL_get] at hj
    cases hy : Ts[j]? with
    | none => rw [hy] at hj; cases hj
    | some y =>
     rw [hy] at hj
     simp only [Option.map_some, Option.some.injEq] at hj
     subst hj
     have := hal4 y (List.mem_of_getElem? hy)
     simp [FS, pushS]; omega
   apply AW.sr
   refine AL.z ?_
   apply AL.nil
   try simp only [thenS, S.put, List.nil_append, List.cons_append]
   apply AW.seq
   refine AW.condF rfl ?_
   refine AW.exit ?_
   try simp only [thenS, inBlockS, ↓reduceIte, Nat.reduceEqDiff, List.nil_append, List.cons_append]
   apply AW.seq
   apply AW.seq
   refine AW.famFreezeN (F := FS) (m := 1) (base := 1000) (L := P) [_, _, _, _] 901 rfl rfl (by rw [hPl]; exact hf.symm) rfl (fun _ => rfl) fs_rows hPa rfl (by simp [V.hasL, V.has]; intro r hr; omega) rfl rfl ?_
   refine AW.freezeH 5 1 32 (P.map FS.data) rfl rfl rfl zT14 rfl rfl (by rw [List.length_map, hPl]) zT15 (rowsF (sz := 2) (fun _ => rfl) rfl) ?_
   refine AW.less (s' := ⟨107, [(2, .ref 2 0), (5, .ref 5 0), (7, .own 21 1 k false)], [(2, ⟨24, [.i 0, .nil], false, 0⟩), (5, ⟨24, [.i a, .d (stsD P)], false, 0⟩), (21, ⟨3, D.map V.n, false, 1⟩)], []⟩) Less.a1 ?_
   by_cases ha0 : a < 0
   ·rw [if_pos ha0]
    apply AW.region
    iterate 3 refine AL.z ?_
    apply AL.nil
    try simp only [thenS, S.put, List.nil_append, List.cons_append]
    refine AW.condT rfl ?_
    apply AW.sr
    refine AL.z ?_
    refine AL.y ?_
    iterate 2 refine AL.z ?_
    apply AL.nil
    try simp only [nd, setL, V.cs, nz, Nat.reduceAdd, nm, ns]
    apply AW.ret
    exact ⟨[_, _, _], ⟨⟨2, 0, _, _, rfl, rfl, rfl, Tryz.underlying24, .inr ⟨rfl, _, _, _, _, inf24, rfl, rfl, rfl⟩⟩, rfl, rfl, trivial⟩, .inr ⟨rfl, rfl⟩, by simp [tupOf, V.pure, V.has, V.hasL]⟩
   obtain ⟨p, rfl⟩ : ∃ p : Nat, a = p := ⟨a.toNat, by omega⟩
   obtain ⟨dp, hdp⟩ := get_lt hDl (show p < k by omega)
   have hXd : dAt D ((p : Int)).toNat = (dp : Int) := by simp only [Int.toNat_natCast]; exact dAt_of hdp
   rw [if_neg ha0, hXd]
   apply AW.region
   iterate 3 refine AL.z ?_
   apply AL.nil
   try simp only [thenS, S.put, List.nil_append, List.cons_append]
   refine AW.condF rfl ?_
   apply AW.skip
   try simp only [thenS, List.nil_append, List.cons_append]
   apply AW.seq
   refine AW.drawT (N := ?N7) (l := #[false, false, false, false, false, false, false, false, false]) 9 zT12 rfl rfl ?_ ?_
   rotate_left
   refine AN.rp (i := 1) (l' := #[false, true, false, false, false, false, false, false, false]) rfl rfl rfl (fun _ _ h => h) zT12 rfl (rp_move rfl rfl) ?_
   refine AN.rp (i := 2) (l' := #[false, true, true, false, false, false, false, false, false]) rfl rfl rfl (fun _ _ h => h) zT12 rfl (rp_field_ref Tryz.underlying24 rfl rfl rfl inf3 zT14 rfl) ?_
   refine AN.br2 (i := 0) (j := 3) zT12 ?_ ?_
   ·refine BR.mk (l' := #[true, true, true, false, false, false, false, false, false]) rfl rfl rfl ?_
    refine ST.rd rfl (rd_loads_ref Tryz.underlying24 rfl inf24 rfl rfl rfl rfl rfl rfl) ?_
    refine AN.br2 (i := 3) (j := 6) zT12 ?_ ?_
    ·refine BR.mk (l' := #[true, true, true, true, false, false, false, false, false]) rfl rfl rfl ?_
     refine ST.rd rfl (rd_load_ref Tryz.underlying3 rfl rfl rfl rfl rfl rfl) ?_
     refine AN.rp (i := 4) (l' := #[true, true, true, true, true, false, false, false, false]) rfl rfl rfl (fun _ _ h => h) zT12 rfl (rp_index_own Tryz.underlying42 inf3 rfl rfl rfl rfl zT9) ?_
     refine AN.br2 (i := 5) (j := 6) zT12 ?_ ?_
     ·refine BR.mk (l' := #[true, true, true, true, true, true, false, false, false]) rfl rfl rfl ?_
      refine ST.rd rfl (rd_load_map Tryz.underlying3 rfl rfl rfl rfl rfl rfl zT13) ?_
      refine AN.br1 (i := 6) zT12 ?_
      refine BR.mk (l' := #[true, true, true, true, true, true, true, false, false]) rfl rfl rfl ?_
      refine ST.st (st_store_any inf24 rfl rfl rfl rfl rfl rfl rfl rfl zT3 rfl) ?_
      refine AN.rp (i := 7) (l' := #[true, true, true, true, true, true, true, true, false]) rfl rfl rfl (fun _ _ h => h) zT12 rfl (rp_assign rfl rfl) ?_
      refine AN.rp (i := 8) (l' := #[true, true, true, true, true, true, true, true, true]) rfl rfl rfl (fun _ _ h => h) zT12 rfl (rp_assign rfl rfl) ?_
      refine AN.nil zT12 ?_
      show Less _ _
      exact Less.dd _
     refine BR.mk (l' := #[true, true, true, true, true, false, true, false, false]) rfl rfl rfl ?_
     refine ST.st (st_store_any inf24 rfl rfl rfl rfl rfl rfl rfl rfl zT3 rfl) ?_
     refine AN.br1 (i := 5) zT12 ?_
     refine BR.mk (l' := #[true, true, true, true, true, true, true, false, false]) rfl rfl rfl ?_
     refine ST.rd rfl (rd_load_map Tryz.underlying3 rfl rfl rfl rfl rfl rfl zT13) ?_
     refine AN.rp (i := 7) (l' := #[true, true, true, true, true, true, true, true, false]) rfl rfl rfl (fun _ _ h => h) zT12 rfl (rp_assign rfl rfl) ?_
     refine AN.rp (i := 8) (l' := #[true, true, true, true, true, true, true, true, true]) rfl rfl rfl (fun _ _ h => h) zT12 rfl (rp_assign rfl rfl) ?_
     refine AN.nil zT12 ?_
     show Less _ _
     (try simp only [S.put, S.newObj, setL, V.cs, nz, Nat.zero_add, Nat.reduceAdd, nm, ns])
     try simp only [S.dd, ddL, List.contains_cons, List.contains_nil, Nat.reduceBEq, beq_self_eq_true, Bool.or_false, Bool.or_true, Bool.false_or, Bool.true_or, Bool.or_self, if_true, if_false, Bool.false_eq_true, ↓reduceIte]
     exact Less.a2
    refine BR.mk (l' := #[true, true, true, false, false, false, true, false, false]) rfl rfl rfl ?_
    refine ST.st (st_store_any inf24 rfl rfl rfl rfl rfl rfl rfl rfl zT3 rfl) ?_
    refine AN.br1 (i := 3) zT12 ?_
    refine BR.mk (l' := #[true, true, true, true, false, false, true, false, false]) rfl rfl rfl ?_
    refine ST.rd rfl (rd_load_ref Tryz.underlying3 rfl rfl rfl rfl rfl rfl) ?_
    refine AN.rp (i := 4) (l' := #[true, true, true, true, true, false, true, false, false]) rfl rfl rfl (fun _ _ h => h) zT12 rfl (rp_index_own Tryz.underlying42 inf3 rfl rfl rfl rfl zT9) ?_
    refine AN.br1 (i := 5) zT12 ?_
    refine BR.mk (l' := #[true, true, true, true, true, true, true, false, false]) rfl rfl rfl ?_
    refine ST.rd rfl (rd_load_map Tryz.underlying3 rfl rfl rfl rfl rfl rfl zT13) ?_
    refine AN.rp (i := 7) (l' := #[true, true, true, true, true, true, true, true, false]) rfl rfl rfl (fun _ _ h => h) zT12 rfl (rp_assign rfl rfl) ?_
    refine AN.rp (i := 8) (l' := #[true, true, true, true, true, true, true, true, true]) rfl rfl rfl (fun _ _ h => h) zT12 rfl (rp_assign rfl rfl) ?_
    refine AN.nil zT12 ?_
    show Less _ _
    (try simp only [S.put, S.newObj, setL, V.cs, nz, Nat.zero_add, Nat.reduceAdd, nm, ns])
    try simp only [S.dd, ddL, List.contains_cons, List.contains_nil, Nat.reduceBEq, beq_self_eq_true, Bool.or_false, Bool.or_true, Bool.false_or, Bool.true_or, Bool.or_self, if_true, if_false, Bool.false_eq_true, ↓reduceIte]
    exact Less.a2
   ·refine BR.mk (l' := #[false, true, true, true, false, false, false, false, false]) rfl rfl rfl ?_
    refine ST.rd rfl (rd_load_ref Tryz.underlying3 rfl rfl rfl rfl rfl rfl) ?_
    refine AN.rp (i := 4) (l' := #[false, true, true, true, true, false, false, false, false]) rfl rfl rfl (fun _ _ h => h) zT12 rfl (rp_index_own Tryz.underlying42 inf3 rfl rfl rfl rfl zT9) ?_
    refine AN.br2 (i := 0) (j := 5) zT12 ?_ ?_
    ·refine BR.mk (l' := #[true, true, true, true, true, false, false, false, false]) rfl rfl rfl ?_
     refine ST.rd rfl (rd_loads_ref Tryz.underlying24 rfl inf24 rfl rfl rfl rfl rfl rfl) ?_
     refine AN.br2 (i := 5) (j := 6) zT12 ?_ ?_
     ·refine BR.mk (l' := #[true, true, true, true, true, true, false, false, false]) rfl rfl rfl ?_
      refine ST.rd rfl (rd_load_map Tryz.underlying3 rfl rfl rfl rfl rfl rfl zT13) ?_
      refine AN.br1 (i := 6) zT12 ?_
      refine BR.mk (l' := #[true, true, true, true, true, true, true, false, false]) rfl rfl rfl ?_
      refine ST.st (st_store_any inf24 rfl rfl rfl rfl rfl rfl rfl rfl zT3 rfl) ?_
      refine AN.rp (i := 7) (l' := #[true, true, true, true, true, true, true, true, false]) rfl rfl rfl (fun _ _ h => h) zT12 rfl (rp_assign rfl rfl) ?_
      refine AN.rp (i := 8) (l' := #[true, true, true, true, true, true, true, true, true]) rfl rfl rfl (fun _ _ h => h) zT12 rfl (rp_assign rfl rfl) ?_
      refine AN.nil zT12 ?_
      show Less _ _
      (try simp only [S.put, S.newObj, setL, V.cs, nz, Nat.zero_add, Nat.reduceAdd, nm, ns])
      try simp only [S.dd, ddL, List.contains_cons, List.contains_nil, Nat.reduceBEq, beq_self_eq_true, Bool.or_false, Bool.or_true, Bool.false_or, Bool.true_or, Bool.or_self, if_true, if_false, Bool.false_eq_true, ↓reduceIte]
      exact Less.a2
     refine BR.mk (l' := #[true, true, true, true, true, false, true, false, false]) rfl rfl rfl ?_
     refine ST.st (st_store_any inf24 rfl rfl rfl rfl rfl rfl rfl rfl zT3 rfl) ?_
     refine AN.br1 (i := 5) zT12 ?_
     refine BR.mk (l' := #[true, true, true, true, true, true, true, false, false]) rfl rfl rfl ?_
     refine ST.rd rfl (rd_load_map Tryz.underlying3 rfl rfl rfl rfl rfl rfl zT13) ?_
     refine AN.rp (i := 7) (l' := #[true, true, true, true, true, true, true, true, false]) rfl rfl rfl (fun _ _ h => h) zT12 rfl (rp_assign rfl rfl) ?_
     refine AN.rp (i := 8) (l' := #[true, true, true, true, true, true, true, true, true]) rfl rfl rfl (fun _ _ h => h) zT12 rfl (rp_assign rfl rfl) ?_
     refine AN.nil zT12 ?_
     show Less _ _
     (try simp only [S.put, S.newObj, setL, V.cs, nz, Nat.zero_add, Nat.reduceAdd, nm, ns])
     try simp only [S.dd, ddL, List.contains_cons, List.contains_nil, Nat.reduceBEq, beq_self_eq_true, Bool.or_false, Bool.or_true, Bool.false_or, Bool.true_or, Bool.or_self, if_true, if_false, Bool.false_eq_true, ↓reduceIte]
     exact Less.a2
    refine BR.mk (l' := #[false, true, true, true, true, true, false, false, false]) rfl rfl rfl ?_
    refine ST.rd rfl (rd_load_map Tryz.underlying3 rfl rfl rfl rfl rfl rfl zT13) ?_
    refine AN.br1 (i := 0) zT12 ?_
    refine BR.mk (l' := #[true, true, true, true, true, true, false, false, false]) rfl rfl rfl ?_
    refine ST.rd rfl (rd_loads_ref Tryz.underlying24 rfl inf24 rfl rfl rfl rfl rfl rfl) ?_
    refine AN.br1 (i := 6) zT12 ?_
    refine BR.mk (l' := #[true, true, true, true, true, true, true, false, false]) rfl rfl rfl ?_
    refine ST.st (st_store_any inf24 rfl rfl rfl rfl rfl rfl rfl rfl zT3 rfl) ?_
    refine AN.rp (i := 7) (l' := #[true, true, true, true, true, true, true, true, false]) rfl rfl rfl (fun _ _ h => h) zT12 rfl (rp_assign rfl rfl) ?_
    refine AN.rp (i := 8) (l' := #[true, true, true, true, true, true, true, true, true]) rfl rfl rfl (fun _ _ h => h) zT12 rfl (rp_assign rfl rfl) ?_
    refine AN.nil zT12 ?_
    show Less _ _
    (try simp only [S.put, S.newObj, setL, V.cs, nz, Nat.zero_add, Nat.reduceAdd, nm, ns])
    try simp only [S.dd, ddL, List.contains_cons, List.contains_nil, Nat.reduceBEq, beq_self_eq_true, Bool.or_false, Bool.or_true, Bool.false_or, Bool.true_or, Bool.or_self, if_true, if_false, Bool.false_eq_true, ↓reduceIte]
    exact Less.a2
   (try simp only [S.put, S.newObj, setL, V.cs, nz, Nat.zero_add, Nat.reduceAdd, nm, ns])
   try simp only [S.dd, ddL, List.contains_cons, List.contains_nil, Nat.reduceBEq, beq_self_eq_true, Bool.or_false, Bool.or_true, Bool.false_or, Bool.true_or, Bool.or_self, if_true, if_false, Bool.false_eq_true, ↓reduceIte]
   try simp only [nd, setL, V.cs, nz, Nat.reduceAdd, nm, ns]
   apply AW.ret
   exact ⟨[_, _, _], ⟨⟨2, 0, _, _, rfl, rfl, rfl, Tryz.underlying24, .inr ⟨rfl, _, _, _, _, inf24, rfl, rfl, rfl⟩⟩, rfl, rfl, trivial⟩, .inr ⟨rfl, rfl⟩, by simp [tupOf, V.pure, V.has, V.hasL]⟩
  have hcon := am_Trim_ok h0
  have hends := resI_ne (am_Ends0 (trimM m)) h1
  rw [pushE_dis h0 h1]
  obtain ⟨e, he⟩ : ∃ e, disE (enD (trimM m)) (trimM m) = e := ⟨_, rfl⟩
  rw [he] at h1 hends ⊢
  obtain ⟨st, sts⟩ := m
  obtain ⟨⟨a, Ts⟩, hT⟩ : ∃ T, trimM ⟨st, sts⟩ = T := ⟨_, rfl⟩
  rw [hT] at hcon hends
  refine Fn.intro (n := 107) ⟨Tryz.func15, rfl, rfl, rfl, rfl⟩ zT8 zT16 fun w0 out => ?_
  apply AW.sr
  refine AL.sm rfl (sm_box 1 rfl rfl rfl rfl rfl) ?_
  refine AL.sm rfl (sm_alloc (l := [.d (.p (.int .i64 0)), .d (.p (.slice none 0 0))]) 2 inf24 rfl rfl rfl rfl) ?_
  iterate 2 refine AL.z ?_
  apply AL.nil
  try simp only [nd, setL, V.cs, nz, Nat.reduceAdd, nm, ns, enum]
  apply AW.sr
  refine AL.z ?_
  refine AL.call (post := ?pc7) rfl (sm_call (args := [_]) ?hc7 ⟨Tryz.func33, rfl, rfl, rfl, rfl⟩ rfl rfl rfl rfl) ?_
  case hc7 => exact hcon
  rintro _ rfl -
  try dsimp only
  iterate 3 refine AL.z ?_
  refine AL.sm rfl (sm_alloc (l := [.d (.p (.int .i64 0)), .d (.p (.slice none 0 0))]) 5 inf24 rfl rfl rfl rfl) ?_
  refine AL.y ?_
  refine AL.z ?_
  apply AL.nil
  try simp only [nd, setL, V.cs, nz, Nat.reduceAdd, nm, ns]
  apply AW.seq
  apply AW.sr
  iterate 2 refine AL.z ?_
  apply AL.nil
  try simp only [thenS, S.put, List.nil_append, List.cons_append]
  refine AW.condF rfl ?_
  apply AW.skip
  try simp only [thenS, List.nil_append, List.cons_append]
  apply AW.sr
  refine AL.z ?_
  refine AL.call (post := ?pc8) rfl (sm_call (args := [_]) ?hc8 ⟨Tryz.func34, rfl, rfl, rfl, rfl⟩ rfl rfl rfl rfl) ?_
  case hc8 => exact hends
  rintro _ rfl -
  try dsimp only
  iterate 5 refine AL.z ?_
  apply AL.nil
  try simp only [nd, setL, V.cs, nz, Nat.reduceAdd, nm, ns]
  apply AW.seq
  apply AW.sr
  iterate 2 refine AL.z ?_
  apply AL.nil
  try simp only [thenS, S.put, List.nil_append, List.cons_append]
  refine AW.condT rfl ?_
  apply AW.sr
  refine AL.rp rfl rfl (rp_build (vs := []) (zs := [.d (.p (.int .i64 0)), .d (.p (.slice none 0 0))]) pl24 inf24 rfl rfl rfl rfl) ?_
  refine AL.z ?_
  refine AL.y ?_
  iterate 2 refine AL.z ?_
  apply AL.nil
  try simp only [nd, setL, V.cs, nz, Nat.reduceAdd, nm, ns]
  apply AW.ret
  exact ⟨[_, _, _], ⟨⟨2, 0, _, _, rfl, rfl, rfl, Tryz.underlying24, .inr ⟨rfl, _, _, _, _, inf24, rfl, rfl, rfl⟩⟩, rfl, rfl, trivial⟩, .inl ⟨h1, rfl⟩, by simp [tupOf, V.pure, V.has, V.hasL]⟩
 have hcon := am_Trim_err h0
 rw [pushE_mach h0]
 obtain ⟨st, sts⟩ := m
 obtain ⟨e, he⟩ : ∃ e, machE ⟨st, sts⟩ = e := ⟨_, rfl⟩
 rw [he] at h0 hcon ⊢
 refine Fn.intro (n := 107) ⟨Tryz.func15, rfl, rfl, rfl, rfl⟩ zT8 zT16 fun w0 out => ?_
 apply AW.sr
 refine AL.sm rfl (sm_box 1 rfl rfl rfl rfl rfl) ?_
 refine AL.sm rfl (sm_alloc (l := [.d (.p (.int .i64 0)), .d (.p (.slice none 0 0))]) 2 inf24 rfl rfl rfl rfl) ?_
 iterate 2 refine AL.z ?_
 apply AL.nil
 try simp only [nd, setL, V.cs, nz, Nat.reduceAdd, nm, ns, enum]
 apply AW.sr
 refine AL.z ?_
 refine AL.call (post := ?pc9) rfl (sm_call (args := [_]) ?hc9 ⟨Tryz.func33, rfl, rfl, rfl, rfl⟩ rfl rfl rfl rfl) ?_
 case hc9 => exact hcon
 rintro _ rfl -
 try dsimp only
 iterate 3 refine AL.z ?_
 refine AL.sm rfl (sm_alloc (l := [.d (.p (.int .i64 0)), .d (.p (.slice none 0 0))]) 5 inf24 rfl rfl rfl rfl) ?_
 refine AL.y ?_
 refine AL.z ?_
 apply AL.nil
 try simp only [nd, setL, V.cs, nz, Nat.reduceAdd, nm, ns]
 apply AW.seq
 apply AW.sr
 iterate 2 refine AL.z ?_
 apply AL.nil
 try simp only [thenS, S.put, List.nil_append, List.cons_append]
 refine AW.condT rfl ?_
 apply AW.sr
 refine AL.rp rfl rfl (rp_build (vs := []) (zs := [.d (.p (.int .i64 0)), .d (.p (.slice none 0 0))]) pl24 inf24 rfl rfl rfl rfl) ?_
 refine AL.z ?_
 refine AL.y ?_
 iterate 2 refine AL.z ?_
 apply AL.nil
 try simp only [nd, setL, V.cs, nz, Nat.reduceAdd, nm, ns]
 apply AW.ret
 exact ⟨[_, _, _], ⟨⟨2, 0, _, _, rfl, rfl, rfl, Tryz.underlying24, .inr ⟨rfl, _, _, _, _, inf24, rfl, rfl, rfl⟩⟩, rfl, rfl, trivial⟩, .inl ⟨h0, rfl⟩, by simp [tupOf, V.pure, V.has, V.hasL]⟩
theorem am_Push (m : Mach) : Fn Tryz.prog 15 [mV m] (fun v => v = .tup [mV (pushM m), .i (pushV m), .i (pushE m)]) := (am_Push0 m).wkS (resQ_wk push_none)
theorem FnP.wkS {Pre : World → Prop} {P : Program} {f : FuncId} {args : List V} {post post' : V → Prop} (h : FnP Pre P f args post) (hp : ∀ v, post v → v.pure → ∃ v', post' v' ∧ v'.pure ∧ ∀ w q g x, VRep w q g v x → VRep w q g v' x) : FnP Pre P f args post' := fun w out g xs h0 h1 h2 =>
 (h w out g xs h0 h1 h2).mono fun e w' ⟨v, x, k1, k2, k3, k4, k5⟩ => let ⟨v', j1, j2, j3⟩ := hp v k2 k3; ⟨v', x, k1, j1, j2, j3 _ _ _ _ k4, k5⟩
theorem am_Least0 (m : Mach) : FnP preT Tryz.prog 7 [mV m] (fun v => resQ (leE m) (leM m) (leV m) v) := by
 have hbits := am_Bits m
 by_cases h0 : machE m = 0
 ·rw [prV_ok h0, h0] at hbits
  cases hfl : bFl m.states with
  | false =>
   have hE : leE m = 7 := by unfold leE; rw [if_neg (by simp [h0]), if_pos hfl]
   rw [hE]
   rw [hfl] at hbits
   clear hE h0 hfl
   obtain ⟨st, sts⟩ := m
   refine FnP.intro (n := 144) ⟨Tryz.func7, rfl, rfl, rfl, rfl⟩ zT8 zT16 fun w0 out hpre => ?_
   apply AW.sr
   refine AL.sm rfl (sm_box 1 rfl rfl rfl rfl rfl) ?_
   refine AL.sm rfl (sm_alloc (l := [.d (.p (.int .i64 0)), .d (.p (.slice none 0 0))]) 2 inf24 rfl rfl rfl rfl) ?_
   iterate 2 refine AL.z ?_
   apply AL.nil
   try simp only [nd, setL, V.cs, nz, Nat.reduceAdd, nm, ns, enum]
   apply AW.sr
   refine AL.z ?_
   refine AL.call (post := ?pc0) rfl (sm_call (args := [_]) ?hc0 ⟨Tryz.func14, rfl, rfl, rfl, rfl⟩ rfl rfl rfl rfl) ?_
   case hc0 => exact hbits
   rintro _ rfl -
   try dsimp only
   iterate 3 refine AL.z ?_
   refine AL.sm rfl (sm_alloc (l := [.d (.p (.bool false)), .d (.p (.bool false)), .d (.p (.bool false)), .d (.p (.bool false)), .d (.p (.bool false))]) 5 inf37 rfl rfl rfl rfl) ?_
   refine AL.y ?_
   refine AL.z ?_
   apply AL.nil
   try simp only [nd, setL, V.cs, nz, Nat.reduceAdd, nm, ns]
   apply AW.seq
   apply AW.block
   apply AW.sr
   iterate 3 refine AL.z ?_
   apply AL.nil
   try simp only [nd]
   refine AW.condF rfl ?_
   apply AW.sr
   iterate 4 refine AL.z ?_
   apply AL.nil
   try simp only [nd]
   refine AW.condT rfl ?_
   apply AW.sr
   refine AL.rp rfl rfl (rp_build (vs := []) (zs := [.d (.p (.int .i64 0)), .d (.p (.slice none 0 0))]) pl24 inf24 rfl rfl rfl rfl) ?_
   refine AL.y ?_
   iterate 2 refine AL.z ?_
   apply AL.nil
   try simp only [nd, setL, V.cs, nz, Nat.reduceAdd, nm, ns]
   apply AW.ret
   exact ⟨[_, _, _], ⟨⟨2, 0, _, _, rfl, rfl, rfl, Tryz.underlying24, .inr ⟨rfl, _, _, _, _, inf24, rfl, rfl, rfl⟩⟩, rfl, rfl, trivial⟩, .inl ⟨by decide, rfl⟩, by simp [tupOf, V.pure, V.has, V.hasL]⟩
  | true =>
   cases hdi : (bDi m.states && bFl m.states) with
   | false =>
    have hE : leE m = 8 := by unfold leE; rw [if_neg (by simp [h0]), if_neg (by simp [hfl]), if_pos hdi]
    rw [hE]
    rw [hdi, hfl] at hbits
    clear hE h0 hdi hfl
    obtain ⟨st, sts⟩ := m
    refine FnP.intro (n := 144) ⟨Tryz.func7, rfl, rfl, rfl, rfl⟩ zT8 zT16 fun w0 out hpre => ?_
    apply AW.sr
    refine AL.sm rfl (sm_box 1 rfl rfl rfl rfl rfl) ?_
    refine AL.sm rfl (sm_alloc (l := [.d (.p (.int .i64 0)), .d (.p (.slice none 0 0))]) 2 inf24 rfl rfl rfl rfl) ?_
    iterate 2 refine AL.z ?_
    apply AL.nil
    try simp only [nd, setL, V.cs, nz, Nat.reduceAdd, nm, ns, enum]
    apply AW.sr
    refine AL.z ?_
    refine AL.call (post := ?pc1) rfl (sm_call (args := [_]) ?hc1 ⟨Tryz.func14, rfl, rfl, rfl, rfl⟩ rfl rfl rfl rfl) ?_
    case hc1 => exact hbits
    rintro _ rfl -
    try dsimp only
    iterate 3 refine AL.z ?_
    refine AL.sm rfl (sm_alloc (l := [.d (.p (.bool false)), .d (.p (.bool false)), .d (.p (.bool false)), .d (.p (.bool false)), .d (.p (.bool false))]) 5 inf37 rfl rfl rfl rfl) ?_
    refine AL.y ?_
    refine AL.z ?_
    apply AL.nil
    try simp only [nd, setL, V.cs, nz, Nat.reduceAdd, nm, ns]
    apply AW.seq
    apply AW.block
    apply AW.sr
    iterate 3 refine AL.z ?_
    apply AL.nil
    try simp only [nd]
    refine AW.condF rfl ?_
    apply AW.sr
    iterate 4 refine AL.z ?_
    apply AL.nil
    try simp only [nd]
    refine AW.condF rfl ?_
    apply AW.sr
    iterate 4 refine AL.z ?_
    apply AL.nil
    try simp only [nd]
    refine AW.condT rfl ?_
    apply AW.sr
    refine AL.rp rfl rfl (rp_build (vs := []) (zs := [.d (.p (.int .i64 0)), .d (.p (.slice none 0 0))]) pl24 inf24 rfl rfl rfl rfl) ?_
    refine AL.y ?_
    iterate 2 refine AL.z ?_
    apply AL.nil
    try simp only [nd, setL, V.cs, nz, Nat.reduceAdd, nm, ns]
    apply AW.ret
    exact ⟨[_, _, _], ⟨⟨2, 0, _, _, rfl, rfl, rfl, Tryz.underlying24, .inr ⟨rfl, _, _, _, _, inf24, rfl, rfl, rfl⟩⟩, rfl, rfl, trivial⟩, .inl ⟨by decide, rfl⟩, by simp [tupOf, V.pure, V.has, V.hasL]⟩
   | true =>
    have hE : leE m = pushE m := by unfold leE; rw [if_neg (by simp [h0]), if_neg (by simp [hfl]), if_neg (by simp [hdi])]
    have hpush := am_Push0 m
    rw [hdi, hfl] at hbits
    by_cases hpe : pushE m = 0
    ·have hE0 : leE m = 0 := by rw [hE, hpe]
     have hpg := push_good hpe
     have hsort := am_Sorted (pushM m)
     obtain ⟨s1, s2, s3⟩ := srt_good hpg
     obtain ⟨z60, y1, zst, y2⟩ := machE_zero hpg
     clear y1 y2
     rw [hpg] at hsort
     have hpush' : Fn Tryz.prog 15 [mV m] (fun v => v = .tup [mV (pushM m), .i (pushV m), .i 0]) := by have := am_Push m; rw [hpe] at this; exact this
     have hM : leM m = if (pushM m).start < 0 then resM inO (pushM m) else ⟨0, lstS (resM inO (pushM m)).states (pushM m).start.toNat⟩ := by unfold leM; rw [if_pos hE0]
     have hV : leV m = if (pushM m).start < 0 then 0 else pushV m := by unfold leV; rw [if_pos hE0]
     rw [hE0, hM, hV]
     obtain ⟨PM, hPM⟩ : ∃ PM, pushM m = PM := ⟨_, rfl⟩
     obtain ⟨PV, hPV⟩ : ∃ PV, pushV m = PV := ⟨_, rfl⟩
     obtain ⟨S, hS⟩ : ∃ S, resM inO PM = S := ⟨_, rfl⟩
     rw [hPM] at hsort s1 s2 s3 z60 zst hpush' ⊢
     rw [hPV] at hpush' ⊢
     rw [hS] at hsort s1 s2 s3 ⊢
     rw [← s1]
     rw [← s1, ← s2] at zst
     rw [← s2] at z60 s3
     clear hE hE0 hM hV hpg hpush hpe hdi hfl h0 hPM hPV hS s1 s2
     obtain ⟨st, sts⟩ := m
     obtain ⟨pst, psts⟩ := PM
     obtain ⟨s0, ss⟩ := S
     simp only at hsort s3 z60 zst ⊢
     by_cases hneg : s0 < 0
     ·rw [if_pos hneg, if_pos hneg]
      refine FnP.intro (n := 144) ⟨Tryz.func7, rfl, rfl, rfl, rfl⟩ zT8 zT16 fun w0 out hpre => ?_
      apply AW.sr
      refine AL.sm rfl (sm_box 1 rfl rfl rfl rfl rfl) ?_
      refine AL.sm rfl (sm_alloc (l := [.d (.p (.int .i64 0)), .d (.p (.slice none 0 0))]) 2 inf24 rfl rfl rfl rfl) ?_
      iterate 2 refine AL.z ?_
      apply AL.nil
      try simp only [nd, setL, V.cs, nz, Nat.reduceAdd, nm, ns, enum]
      apply AW.sr
      refine AL.z ?_
      refine AL.call (post := ?pc2) rfl (sm_call (args := [_]) ?hc2 ⟨Tryz.func14, rfl, rfl, rfl, rfl⟩ rfl rfl rfl rfl) ?_
      case hc2 => exact hbits
      rintro _ rfl -
      try dsimp only
      iterate 3 refine AL.z ?_
      refine AL.sm rfl (sm_alloc (l := [.d (.p (.bool false)), .d (.p (.bool false)), .d (.p (.bool false)), .d (.p (.bool false)), .d (.p (.bool false))]) 5 inf37 rfl rfl rfl rfl) ?_
      refine AL.y ?_
      refine AL.z ?_
      apply AL.nil
      try simp only [nd, setL, V.cs, nz, Nat.reduceAdd, nm, ns]
      apply AW.seq
      apply AW.block
      apply AW.sr
      iterate 3 refine AL.z ?_
      apply AL.nil
      try simp only [nd]
      refine AW.condF rfl ?_
      apply AW.sr
      iterate 4 refine AL.z ?_
      apply AL.nil
      try simp only [nd]
      refine AW.condF rfl ?_
      apply AW.sr
      iterate 4 refine AL.z ?_
      apply AL.nil
      try simp only [nd]
      refine AW.condF rfl ?_
      apply AW.skip
      try simp only [thenS]
      apply AW.sr
      refine AL.z ?_
      refine AL.call (post := ?pc3) rfl (sm_call (args := [_]) ?hc3 ⟨Tryz.func15, rfl, rfl, rfl, rfl⟩ rfl rfl rfl rfl) ?_
      case hc3 => exact hpush'
      rintro _ rfl -
      try dsimp only
      iterate 4 refine AL.z ?_
      refine AL.sm rfl (sm_alloc (l := [.d (.p (.int .i64 0)), .d (.p (.slice none 0 0))]) 7 inf24 rfl rfl rfl rfl) ?_
      refine AL.y ?_
      iterate 2 refine AL.z ?_
      apply AL.nil
      try simp only [nd, setL, V.cs, nz, Nat.reduceAdd, nm, ns]
      apply AW.seq
      apply AW.sr
      iterate 2 refine AL.z ?_
      apply AL.nil
      try simp only [nd]
      refine AW.condF rfl ?_
      apply AW.skip
      try simp only [thenS]
      apply AW.sr
      refine AL.z ?_
      refine AL.call (post := ?pc4) rfl (sm_call (args := [_]) ?hc4 ⟨Tryz.func16, rfl, rfl, rfl, rfl⟩ rfl rfl rfl rfl) ?_
      case hc4 => exact hsort
      rintro _ rfl -
      try dsimp only
      iterate 3 refine AL.z ?_
      refine AL.sm rfl (sm_alloc (l := [.d (.p (.int .i64 0)), .d (.p (.slice none 0 0))]) 9 inf24 rfl rfl rfl rfl) ?_
      refine AL.y ?_
      refine AL.z ?_
      apply AL.nil
      try simp only [nd, setL, V.cs, nz, Nat.reduceAdd, nm, ns]
      apply AW.seq
      apply AW.sr
      iterate 3 refine AL.z ?_
      apply AL.nil
      try simp only [nd]
      refine AW.condT rfl ?_
      apply AW.sr
      refine AL.z ?_
      refine AL.y ?_
      iterate 2 refine AL.z ?_
      apply AL.nil
      try simp only [nd, setL, V.cs, nz, Nat.reduceAdd, nm, ns]
      apply AW.ret
      exact ⟨[_, _, _], ⟨⟨2, 0, _, _, rfl, rfl, rfl, Tryz.underlying24, .inr ⟨rfl, _, _, _, _, inf24, rfl, rfl, rfl⟩⟩, rfl, rfl, trivial⟩, .inr ⟨rfl, rfl⟩, by simp [tupOf, V.pure, V.has, V.hasL]⟩
     rw [if_neg hneg, if_neg hneg]
     obtain ⟨s, rfl⟩ := Int.eq_ofNat_of_zero_le (show 0 ≤ s0 by omega)
     obtain ⟨n, hn⟩ : ∃ n, ss.length = n := ⟨_, rfl⟩
     have htin : tin ss := fun x hx a ha => by
      have h1 := (s3 x hx).2.2 a ha
      simp only [arOk, decide_eq_true_eq] at h1
      omega
     have hcls := am_classes (s : Int) ss z60 zT15 (fun x hx => (s3 x hx).1) (fun x hx => ⟨(s3 x hx).2.1, (s3 x hx).2.2⟩)
     have hlst := fun (cl : List Nat) => lst_of (cl := cl) (st := s) htin zT15
     simp only [Int.toNat_natCast]
     obtain ⟨R, hR⟩ : ∃ R, lstS ss s = R := ⟨_, rfl⟩
     rw [hR] at hlst ⊢
     rw [hn] at z60 zst hcls hlst s3
     refine FnP.intro (n := 144) ⟨Tryz.func7, rfl, rfl, rfl, rfl⟩ zT8 zT16 fun w0 out hpre => ?_
     apply AW.sr
     refine AL.sm rfl (sm_box 1 rfl rfl rfl rfl rfl) ?_
     refine AL.sm rfl (sm_alloc (l := [.d (.p (.int .i64 0)), .d (.p (.slice none 0 0))]) 2 inf24 rfl rfl rfl rfl) ?_
     iterate 2 refine AL.z ?_
     apply AL.nil
     try simp only [nd, setL, V.cs, nz, Nat.reduceAdd, nm, ns, enum]
     apply AW.sr
     refine AL.z ?_
     refine AL.call (post := ?pc5) rfl (sm_call (args := [_]) ?hc5 ⟨Tryz.func14, rfl, rfl, rfl, rfl⟩ rfl rfl rfl rfl) ?_
     case hc5 => exact hbits
     rintro _ rfl -
     try dsimp only
     iterate 3 refine AL.z ?_
     refine AL.sm rfl (sm_alloc (l := [.d (.p (.bool false)), .d (.p (.bool false)), .d (.p (.bool false)), .d (.p (.bool false)), .d (.p (.bool false))]) 5 inf37 rfl rfl rfl rfl) ?_
     refine AL.y ?_
     refine AL.z ?_
     apply AL.nil
     try simp only [nd, setL, V.cs, nz, Nat.reduceAdd, nm, ns]
     apply AW.seq
     apply AW.block
     apply AW.sr
     iterate 3 refine AL.z ?_
     apply AL.nil
     try simp only [nd]
     refine AW.condF rfl ?_
     apply AW.sr
     iterate 4 refine AL.z ?_
     apply AL.nil
     try simp only [nd]
     refine AW.condF rfl ?_
     apply AW.sr
     iterate 4 refine AL.z ?_
     apply AL.nil
     try simp only [nd]
     refine AW.condF rfl ?_
     apply AW.skip
     try simp only [thenS]
     apply AW.sr
     refine AL.z ?_
     refine AL.call (post := ?pc6) rfl (sm_call (args := [_]) ?hc6 ⟨Tryz.func15, rfl, rfl, rfl, rfl⟩ rfl rfl rfl rfl) ?_
     case hc6 => exact hpush'
     rintro _ rfl -
     try dsimp only
     iterate 4 refine AL.z ?_
     refine AL.sm rfl (sm_alloc (l := [.d (.p (.int .i64 0)), .d (.p (.slice none 0 0))]) 7 inf24 rfl rfl rfl rfl) ?_
     refine AL.y ?_
     iterate 2 refine AL.z ?_
     apply AL.nil
     try simp only [nd, setL, V.cs, nz, Nat.reduceAdd, nm, ns]
     apply AW.seq
     apply AW.sr
     iterate 2 refine AL.z ?_
     apply AL.nil
     try simp only [nd]
     refine AW.condF rfl ?_
     apply AW.skip
     try simp only [thenS]
     apply AW.sr
     refine AL.z ?_
     refine AL.call (post := ?pc7) rfl (sm_call (args := [_]) ?hc7 ⟨Tryz.func16, rfl, rfl, rfl, rfl⟩ rfl rfl rfl rfl) ?_
     case hc7 => exact hsort
     rintro _ rfl -
     try dsimp only
     iterate 3 refine AL.z ?_
     refine AL.sm rfl (sm_alloc (l := [.d (.p (.int .i64 0)), .d (.p (.slice none 0 0))]) 9 inf24 rfl rfl rfl rfl) ?_
     refine AL.y ?_
     refine AL.z ?_
     apply AL.nil
     try simp only [nd, setL, V.cs, nz, Nat.reduceAdd, nm, ns]
     apply AW.seq
     apply AW.sr
     iterate 3 refine AL.z ?_
     apply AL.nil
     try simp only [nd]
     refine AW.condF rfl ?_
     apply AW.skip
     try simp only [thenS]
     apply AW.sr
     refine AL.z ?_
     refine AL.call (post := ?pc8) rfl (sm_callP (args := [_]) (tab_kept _ _ _ _) zT13 ?hc8 ⟨Tryz.func17, rfl, rfl, rfl, rfl⟩ rfl rfl rfl rfl) ?_
     case hc8 => exact hcls
     rintro _ ⟨cl, mm, rfl, hcl, hcm, hmn, hciff⟩ -
     try dsimp only
     iterate 5 refine AL.z ?_
     apply AL.nil
     try simp only [nd, setL, V.cs, nz, Nat.reduceAdd, nm, ns]
     apply AW.seq
     have hcs : cl[s]? = some (clG cl s) := clG_mem hcl zT15
     have hc0 := hcm _ (List.mem_of_getElem? hcs)
     have hn1 := numI_one cl mm s
     have hd1 := dstC_one cl s
     have hbr := hlst cl hciff
     obtain ⟨c0, hc0d⟩ : ∃ c0, clG cl s = c0 := ⟨_, rfl⟩
     rw [hc0d] at hcs hc0 hn1
     have hrep := am_Repeat mm zT15 zT15
     have hrl : List.replicate mm (V.i (-1)) = (List.replicate mm (-1 : Int)).map V.i := by simp
     have hrn : c0 < (List.replicate mm (-1 : Int)).length := by simp; exact hc0
     apply AW.region
     refine AL.sm rfl (sm_slice (vs := [(0, _)]) (zs := [.d (.p (.int .i64 0))]) 65 Tryz.underlying42 inf3 rfl rfl zT14 zT14 zT14 rfl rfl rfl rfl rfl rfl rfl) ?_
     refine AL.freeze 65 8 (([-1] : List Int).map fun x : Int => [D.p (.int .i64 x)]) rfl rfl rfl rfl zT14 (rows1 (f := fun x : Int => D.p (.int .i64 x)) rfl) ?_
     refine AL.z ?_
     refine AL.callo (post := ?pc9) rfl (sm_callo (args := [_, _]) ?hc9 ⟨Tryz.func18, rfl, rfl, rfl, rfl⟩ rfl rfl rfl rfl ?fc9) ?_
     case hc9 => exact hrep
     case fc9 => exact (by rintro _ _ ⟨rfl, rfl⟩; first | rfl | simp [S.clean, S.put, S.newObj, S.forget, V.has, V.hasL, junkIf, setL, V.cs, hasL_i, hasL_b, hasL_s, hasL_n, hasL_rep, hasL_flat, hasL_append])
     rintro _ _ ⟨rfl, rfl⟩
     try dsimp only
     refine AL.z ?_
     apply AL.nil
     try simp only [nd, setL, V.cs, nz, Nat.reduceAdd, nm, ns]
     apply AW.seq
     rw [hrl]
     apply AW.region
     iterate 7 refine AL.z ?_
     refine AL.st rfl (st_store_map2 (v := (0 : Int)) inf3 rfl rfl rfl rfl rfl rfl rfl rfl zT9) ?_
     apply AL.nil
     try simp only [nd, setL, V.cs, nz, Nat.reduceAdd, nm, ns]
     apply AW.sr
     iterate 2 refine AL.z ?_
     refine AL.sm rfl (sm_slice (vs := [(0, _)]) (zs := [.d (.p (.int .i64 0))]) 77 Tryz.underlying42 inf3 rfl rfl zT14 zT14 zT14 rfl rfl rfl rfl zT1 rfl rfl) ?_
     refine AL.z ?_
     apply AL.nil
     try simp only [nd, setL, V.cs, nz, Nat.reduceAdd, nm, ns]
     apply AW.sr
     refine AL.sm rfl (sm_alloc (l := [.d (.p (.int .i64 0)), .d (.p (.slice none 0 0))]) 15 inf24 rfl zT1 rfl rfl) ?_
     apply AL.nil
     try simp only [nd, setL, V.cs, nz, Nat.reduceAdd, nm, ns]
     apply AW.seq
     apply AW.block
     have hnl0 : ((List.replicate mm (-1 : Int)).set c0 0).length = mm := by simp
     generalize (List.replicate mm (-1 : Int)).set c0 0 = num0 at hn1 hnl0 ⊢
     refine AW.adoptH 15 1 902 2 35 rfl rfl rfl (by simp [S.clean, V.has, V.hasL, V.cs, setL, hasL_i, hasL_n, hasL_flat]) ?_
     clear hcls hlst hciff hrl hrn hrep hcs hc0
     refine AW.loopN (fun μ s' => ∃ (l : List Nat) (num : List Int) (P : List St), n - P.length ≤ μ ∧ bldC ss cl (n - P.length) l P = R ∧ dstC cl l ∧ numI cl l num ∧ num.length = mm ∧ (∀ q ∈ l, q < n) ∧ P.length ≤ l.length ∧ s' = ⟨144, [(2, .ref 2 0), (8, .i PV), (9, .ref 9 0), (11, .d (.sl 1 8 (cl.map encN))), (13, .own 901 1 mm false), (14, .own 77 1 l.length false), (15, .ref 15 0)], [(2, ⟨24, [.i 0, .nil], false, 0⟩), (9, ⟨24, [.i (s : Int), .d (stsD ss)], false, 0⟩), (901, ⟨3, num.map V.i, false, 1⟩), (77, ⟨3, l.map V.n, false, 1⟩), (15, ⟨24, [.i 0, .own 902 2 P.length (decide (P.length = 0))], false, 0⟩), (902, ⟨35, P.flatMap stV2, decide (P.length = 0), 2⟩)], []⟩) ⟨n, _, ?_, [s], num0, [], by simp, by simpa using hbr, hd1, hn1, hnl0, fun q hq => by rw [List.mem_singleton] at hq; omega, by simp, rfl⟩ ?_
     ·exact Less.a0
     clear hbr hd1 hn1 hnl0 hc0d
     rintro μ s' ⟨l, num, P, hμ, hbr, hd, hnI, hnl, hll, hPl, rfl⟩
     obtain ⟨k, hPk⟩ : ∃ k, P.length = k := ⟨_, rfl⟩
     obtain ⟨lt, hlt⟩ : ∃ k, l.length = k := ⟨_, rfl⟩
     have hlm := dstC_le hd hll hcl hcm
     have hflP : (P.flatMap stV2).length = k * 2 := by rw [flat_len (sz := 2) (fun _ => rfl), hPk]
     rw [hlt] at hlm
     rw [hPk, hlt] at hPl
     rw [hPk] at hμ hbr
     simp only [hPk, hlt]
     by_cases hkl : k < lt
     ·obtain ⟨q, hq⟩ := get_lt hlt hkl
      have hqn := hll q (List.mem_of_getElem? hq)
      obtain ⟨x, hx⟩ := get_lt hn hqn
      rw [show n - k = (n - k - 1) + 1 by omega, bldC_step (by rw [hPk]; exact hq) hx] at hbr
      obtain ⟨hx4, hxf, hxa⟩ := s3 x (List.mem_of_getElem? hx)
      obtain ⟨fin, A⟩ := x
      simp only at hx4 hxa hbr
      obtain ⟨la, hla⟩ : ∃ la, A.length = la := ⟨_, rfl⟩
      rw [hla] at hx4
      apply AW.seq
      apply AW.sr
      iterate 6 refine AL.z ?_
      apply AL.nil
      try simp only [nd]
      refine AW.condT rfl ?_
      apply AW.skip
      try simp only [thenS]
      apply AW.block
      apply AW.seq
      refine AW.draw [(0, true), (1, true), (2, true), (3, true), (4, true), (5, true), (6, true), (7, true), (8, true), (9, true), (10, false), (11, false)] (fun i => !([11] : List Nat).contains i) 12 zT12 zT12 rfl zT12 ?_
      iterate 10 refine AD1.z ?_
      refine AD1.go ?_
      refine AD2.sm rfl rfl (sm_alloc (l := [.d (.p (.int .i64 0)), .d (.p (.slice none 0 0))]) 16 inf35 rfl zT1 rfl rfl) ?_
      refine AD2.go ?_
      refine AD3.st rfl rfl rfl (st_store_any inf35 rfl rfl rfl rfl rfl rfl rfl rfl zT3 rfl) ?_
      refine AD3.nil ?_
      try simp only [nd, setL, V.cs, nz, Nat.reduceAdd, nm, ns]
      apply AW.sr
      iterate 2 refine AL.z ?_
      refine AL.rp rfl rfl (rp_build (vs := [(0, _)]) (zs := [.d (.p (.int .i64 0)), .d (.p (.slice none 0 0))]) pl35 inf35 rfl rfl rfl rfl) ?_
      refine AL.sm rfl (sm_alloc (l := [.d (.p (.int .i64 0)), .d (.p (.slice none 0 0))]) 17 inf35 rfl zT1 rfl rfl) ?_
      refine AL.y ?_
      apply AL.nil
      try simp only [nd, setL, V.cs, nz, Nat.reduceAdd, nm, ns]
      apply AW.seq
      apply AW.seq
      refine AW.adoptH 17 1 903 4 47 rfl rfl rfl (by simp [S.clean, V.has, V.hasL, V.cs, setL, hasL_i, hasL_n, hasL_flat]) ?_
      apply AW.region
      iterate 4 refine AL.z ?_
      apply AL.nil
      try simp only [nd]
      apply AW.block
      have hla0 : arcsC cl l (A.drop 0) [] = arcsC cl l A [] := by rw [List.drop_zero]
      refine AW.loop (fun s' => ∃ (i : Nat) (l' : List Nat) (num' : List Int) (o : List Ar), i ≤ la ∧ arcsC cl l' (A.drop i) o = arcsC cl l A [] ∧ dstC cl l' ∧ numI cl l' num' ∧ num'.length = mm ∧ (∀ q ∈ l', q < n) ∧ k < l'.length ∧ o.length = i ∧ s' = ⟨144, [(2, .ref 2 0), (8, .i PV), (9, .ref 9 0), (11, .d (.sl 1 8 (cl.map encN))), (13, .own 901 1 mm false), (14, .own 77 1 l'.length false), (15, .ref 15 0), (17, .ref 17 0), (98, .d (arsD A)), (99, .i la), (100, .i i)], [(2, ⟨24, [.i 0, .nil], false, 0⟩), (9, ⟨24, [.i (s : Int), .d (stsD ss)], false, 0⟩), (901, ⟨3, num'.map V.i, false, 1⟩), (77, ⟨3, l'.map V.n, false, 1⟩), (15, ⟨24, [.i 0, .own 902 2 k (decide (k = 0))], false, 0⟩), (902, ⟨35, P.flatMap stV2, decide (k = 0), 2⟩), (17, ⟨35, [.i fin, .own 903 4 o.length (decide (o.length = 0))], false, 0⟩), (903, ⟨47, o.flatMap arV2, decide (o.length = 0), 4⟩)], []⟩) (fun s' => la - s'.nat 100) ⟨_, ?_, 0, l, num, [], by omega, hla0, hd, hnI, hnl, hll, by omega, rfl, rfl⟩ ?_
      ·rw [hlt]
       exact Less.a0
      clear hla0 hd hnI hnl hll
      rintro s' ⟨i, l', num', o, hi, hrun, hd, hnI, hnl, hll, hkl', ho, rfl⟩
      obtain ⟨lt', hlt'⟩ : ∃ k, l'.length = k := ⟨_, rfl⟩
      have hlm' := dstC_le hd hll hcl hcm
      rw [hlt'] at hlm' hkl'
      have hflo : (o.flatMap arV2).length = i * 4 := by rw [flat_len (sz := 4) (fun _ => rfl), ho]
      have hfl' : (l'.map V.n).length = lt' * 1 := by rw [List.length_map, hlt', Nat.mul_one]
      simp only [hlt', ho]
      by_cases hil : i < la
      ·obtain ⟨a, ha⟩ := get_lt hla hil
       have h3 := hxa a (List.mem_of_getElem? ha)
       simp only [arOk, decide_eq_true_eq] at h3
       rw [arcsC_at ha] at hrun
       obtain ⟨ai, ao, aw, at'⟩ := a
       simp only at h3
       obtain ⟨p, rfl⟩ := Int.eq_ofNat_of_zero_le h3.2.2.2.1
       have hpn : p < n := by omega
       have hcp := clG_mem hcl hpn
       have hcp2 := hcm _ (List.mem_of_getElem? hcp)
       obtain ⟨cp, hcpd⟩ : ∃ cp, clG cl p = cp := ⟨_, rfl⟩
       rw [hcpd] at hcp hcp2
       obtain ⟨v, hv⟩ := get_lt hnl hcp2
       have hnl2 : cp < num'.length := by omega
       have hv2 : num'[clG cl p]? = some v := by rw [hcpd]; exact hv
       by_cases hv0 : v < 0
       ·have hnew := numI_new hnI hv2 hv0
        obtain ⟨t1, t2⟩ := takC_new (a := ⟨ai, ao, aw, (p : Int)⟩) zT16 hnew
        have hd2 := dst_snoc hd hnew
        have hn2 := numI_put hnI hnew
        rw [t1, t2, hlt'] at hrun
        rw [hcpd, hlt'] at hn2
        have hset : (num'.set cp (lt' : Int))[cp]? = some (lt' : Int) := List.getElem?_set_self hnl2
        have hsl : cp < (num'.set cp (lt' : Int)).length := by rw [List.length_set]; exact hnl2
        clear hd hnI hnew t1 t2 hv2
        apply AW.sr
        refine AL.z ?_
        apply AL.nil
        try simp only [nd]
        apply AW.seq
        refine AW.condT rfl ?_
        apply AW.skip
        try simp only [thenS]
        apply AW.seq
        apply AW.block
        apply AW.sr
        iterate 2 refine AL.z ?_
        refine AL.sm rfl (sm_alloc (l := [.d (.p (.int .i64 0)), .d (.p (.int .i64 0)), .d (.p (.int .i64 0)), .d (.p (.int .i64 0))]) 19 inf47 rfl zT1 rfl rfl) ?_
        refine AL.y ?_
        apply AL.nil
        try simp only [nd, setL, V.cs, nz, Nat.reduceAdd, nm, ns]
        apply AW.sr
        iterate 6 refine AL.z ?_
        apply AL.nil
        try simp only [nd]
        apply AW.seq
        apply AW.sr
        iterate 5 refine AL.z ?_
        apply AL.nil
        try simp only [nd]
        refine AW.condT rfl ?_
        apply AW.sr
        iterate 5 refine AL.z ?_
        refine AL.st rfl (st_store_map2 (v := (lt' : Int)) inf3 rfl rfl rfl rfl rfl rfl rfl rfl zT9) ?_
        apply AL.nil
        try simp only [nd, setL, V.cs, nz, Nat.reduceAdd, nm, ns]
        apply AW.region
        iterate 3 refine AL.z ?_
        refine AL.sm rfl (sm_slice (vs := [(0, _)]) (zs := [.d (.p (.int .i64 0))]) 122 Tryz.underlying42 inf3 rfl rfl zT14 zT14 zT14 rfl rfl rfl rfl zT1 rfl rfl) ?_
        refine AL.st rfl (st_appendF Tryz.underlying42 inf3 rfl zT14 rfl rfl rfl rfl rfl rfl zT5 zT1 rfl rfl rfl rfl rfl rfl rfl zT14 zT15 zT15 rfl) ?_
        simp only [S.forget, S.put, S.newObj, junkIf, V.has, V.hasL, nh, hasL_flat, hasL_append, List.map_cons, List.map_nil, List.filter_cons, List.filter_nil, Nat.reduceBNe, Nat.reduceBEq, eq_self, bne_self_eq_false,  Bool.not_true, Bool.not_false, Bool.or_false, Bool.or_true, Bool.false_or, Bool.true_or, if_true, if_false, Bool.false_eq_true, ite_true, ite_false, ↓reduceIte, beq_self_eq_true, Nat.reduceEqDiff]
        refine AL.z ?_
        apply AL.nil
        try simp only [nd, setL, V.cs, nz, Nat.reduceAdd, nm, ns]
        apply AW.sr
        iterate 5 refine AL.z ?_
        (refine AL.st rfl (st_store inf3 rfl rfl rfl rfl rfl rfl rfl zT7 rfl) ?_)
        apply AL.nil
        try simp only [nd, setL, V.cs, nz, Nat.reduceAdd, nm, ns]
        apply AW.region
        iterate 3 refine AL.z ?_
        refine AL.sm rfl (sm_slice (vs := [(0, _)]) (zs := [.d (.p (.int .i64 0)), .d (.p (.int .i64 0)), .d (.p (.int .i64 0)), .d (.p (.int .i64 0))]) 132 Tryz.underlying33 inf47 rfl rfl zT14 zT14 zT14 rfl rfl rfl rfl zT1 rfl rfl) ?_
        refine AL.st rfl (st_appendF Tryz.underlying33 inf47 rfl zT14 rfl rfl rfl rfl rfl rfl zT5 zT1 rfl rfl rfl rfl rfl rfl rfl zT14 zT15 zT15 rfl) ?_
        simp only [S.forget, S.put, S.newObj, junkIf, V.has, V.hasL, nh, hasL_flat, hasL_append, List.map_cons, List.map_nil, List.filter_cons, List.filter_nil, Nat.reduceBNe, Nat.reduceBEq, eq_self, bne_self_eq_false,  Bool.not_true, Bool.not_false, Bool.or_false, Bool.or_true, Bool.false_or, Bool.true_or, if_true, if_false, Bool.false_eq_true, ite_true, ite_false, ↓reduceIte, beq_self_eq_true, Nat.reduceEqDiff]
        refine AL.z ?_
        (refine AL.st rfl (st_store inf33 rfl rfl rfl rfl rfl rfl rfl zT7 rfl) ?_)
        apply AL.nil
        try simp only [nd, setL, V.cs, nz, Nat.reduceAdd, nm, ns]
        apply AW.region
        iterate 2 refine AL.z ?_
        apply AL.nil
        try simp only [nd]
        refine ⟨_, ?_, ⟨i + 1, l' ++ [p], num'.set cp (lt' : Int), o ++ [⟨ai, ao, aw, (lt' : Int)⟩], by omega, hrun, hd2, hn2, by rw [List.length_set]; exact hnl, fun q hq => ?_, by rw [List.length_append, hlt']; omega, by simp [ho], rfl⟩, ?_⟩
        ·simp only [List.flatMap_append, List.flatMap_cons, List.flatMap_nil, List.append_nil, List.length_append, List.length_cons, List.length_nil, Nat.zero_add, List.map_append, List.map_cons, List.map_nil, hlt', ho]
         exact Less.a0
        ·rcases List.mem_append.1 hq with h | h
         ·exact hll q h
         rw [List.mem_singleton] at h; omega
        simp [S.nat, fnd]; omega
       obtain ⟨j, rfl⟩ := Int.eq_ofNat_of_zero_le (show 0 ≤ v by omega)
       obtain ⟨k1, k2⟩ := numI_old hnI hd hv2 hv0
       simp only [Int.toNat_natCast] at k1 k2
       obtain ⟨t1, t2⟩ := takC_old (a := ⟨ai, ao, aw, (p : Int)⟩) zT16 k1 k2
       rw [t1, t2] at hrun
       clear k1 k2 t1 t2 hv2
       apply AW.sr
       refine AL.z ?_
       apply AL.nil
       try simp only [nd]
       apply AW.seq
       refine AW.condT rfl ?_
       apply AW.skip
       try simp only [thenS]
       apply AW.seq
       apply AW.block
       apply AW.sr
       iterate 2 refine AL.z ?_
       refine AL.sm rfl (sm_alloc (l := [.d (.p (.int .i64 0)), .d (.p (.int .i64 0)), .d (.p (.int .i64 0)), .d (.p (.int .i64 0))]) 19 inf47 rfl zT1 rfl rfl) ?_
       refine AL.y ?_
       apply AL.nil
       try simp only [nd, setL, V.cs, nz, Nat.reduceAdd, nm, ns]
       apply AW.sr
       iterate 6 refine AL.z ?_
       apply AL.nil
       try simp only [nd]
       apply AW.seq
       apply AW.sr
       iterate 5 refine AL.z ?_
       apply AL.nil
       try simp only [nd]
       refine AW.condF rfl ?_
       apply AW.skip
       try simp only [thenS]
       apply AW.sr
       iterate 5 refine AL.z ?_
       (refine AL.st rfl (st_store inf3 rfl rfl rfl rfl rfl rfl rfl zT7 rfl) ?_)
       apply AL.nil
       try simp only [nd, setL, V.cs, nz, Nat.reduceAdd, nm, ns]
       apply AW.region
       iterate 3 refine AL.z ?_
       refine AL.sm rfl (sm_slice (vs := [(0, _)]) (zs := [.d (.p (.int .i64 0)), .d (.p (.int .i64 0)), .d (.p (.int .i64 0)), .d (.p (.int .i64 0))]) 132 Tryz.underlying33 inf47 rfl rfl zT14 zT14 zT14 rfl rfl rfl rfl zT1 rfl rfl) ?_
       refine AL.st rfl (st_appendF Tryz.underlying33 inf47 rfl zT14 rfl rfl rfl rfl rfl rfl zT5 zT1 rfl rfl rfl rfl rfl rfl rfl zT14 zT15 zT15 rfl) ?_
       simp only [S.forget, S.put, S.newObj, junkIf, V.has, V.hasL, nh, hasL_flat, hasL_append, List.map_cons, List.map_nil, List.filter_cons, List.filter_nil, Nat.reduceBNe, Nat.reduceBEq, eq_self, bne_self_eq_false,  Bool.not_true, Bool.not_false, Bool.or_false, Bool.or_true, Bool.false_or, Bool.true_or, if_true, if_false, Bool.false_eq_true, ite_true, ite_false, ↓reduceIte, beq_self_eq_true, Nat.reduceEqDiff]
       refine AL.z ?_
       (refine AL.st rfl (st_store inf33 rfl rfl rfl rfl rfl rfl rfl zT7 rfl) ?_)
       apply AL.nil
       try simp only [nd, setL, V.cs, nz, Nat.reduceAdd, nm, ns]
       apply AW.region
       iterate 2 refine AL.z ?_
       apply AL.nil
       try simp only [nd]
       refine ⟨_, ?_, ⟨i + 1, l', num', o ++ [⟨ai, ao, aw, (j : Int)⟩], by omega, hrun, hd, hnI, hnl, hll, by omega, by simp [ho], rfl⟩, ?_⟩
       ·simp only [List.flatMap_append, List.flatMap_cons, List.flatMap_nil, List.append_nil, List.length_append, List.length_cons, List.length_nil, Nat.zero_add, hlt', ho]
        exact Less.a0
       simp [S.nat, fnd]; omega
      obtain rfl : i = la := by omega
      rw [List.drop_eq_nil_of_le zT15, arcsC] at hrun
      rw [← hrun] at hbr
      simp only at hbr
      apply AW.sr
      refine AL.z ?_
      apply AL.nil
      try simp only [nd]
      apply AW.seq
      refine AW.condF rfl ?_
      refine AW.exit ?_
      try simp only [thenS, inBlockS, ↓reduceIte, Nat.reduceEqDiff]
      refine AW.freezeH 17 1 32 (o.map arD) rfl rfl rfl zT14 rfl rfl (by rw [List.length_map, ho]) zT15 (rowsF (enc := arD) (sz := 4) (l := o) (fun _ => rfl) rfl) ?_
      apply AW.region
      iterate 3 refine AL.z ?_
      refine AL.sm rfl (sm_slice (vs := [(0, _)]) (zs := [.d (.p (.int .i64 0)), .d (.p (.slice none 0 0))]) 139 Tryz.underlying22 inf35 rfl rfl zT14 zT14 zT14 rfl rfl rfl rfl zT1 rfl rfl) ?_
      refine AL.st rfl (st_appendF Tryz.underlying22 inf35 rfl zT14 rfl rfl rfl rfl rfl rfl zT5 zT1 rfl rfl rfl rfl rfl rfl rfl zT14 zT15 zT15 rfl) ?_
      simp only [S.forget, S.put, S.newObj, junkIf, V.has, V.hasL, nh, hasL_flat, hasL_append, List.map_cons, List.map_nil, List.filter_cons, List.filter_nil, Nat.reduceBNe, Nat.reduceBEq, eq_self, bne_self_eq_false,  Bool.not_true, Bool.not_false, Bool.or_false, Bool.or_true, Bool.false_or, Bool.true_or, if_true, if_false, Bool.false_eq_true, ite_true, ite_false, ↓reduceIte, beq_self_eq_true, Nat.reduceEqDiff]
      refine AL.z ?_
      (refine AL.st rfl (st_store inf22 rfl rfl rfl rfl rfl rfl rfl zT7 rfl) ?_)
      apply AL.nil
      try simp only [nd, setL, V.cs, nz, Nat.reduceAdd, nm, ns]
      refine ⟨μ - 1, _, ?_, ⟨l', num', P ++ [⟨fin, o⟩], by rw [List.length_append, hPk]; simp only [List.length_cons, List.length_nil]; omega, ?_, hd, hnI, hnl, hll, by rw [List.length_append, hPk, hlt']; simp only [List.length_cons, List.length_nil]; omega, rfl⟩, ?_⟩
      ·simp only [List.flatMap_append, List.flatMap_cons, List.flatMap_nil, List.append_nil, List.length_append, List.length_cons, List.length_nil, Nat.zero_add, hPk, hlt']
       exact Less.a0
      ·rw [List.length_append, List.length_cons, List.length_nil, hPk, show n - (k + (0 + 1)) = n - k - 1 by omega]
       exact hbr
      omega
     rw [bldC_end zT15] at hbr
     subst hbr
     apply AW.seq
     apply AW.sr
     iterate 6 refine AL.z ?_
     apply AL.nil
     try simp only [nd]
     refine AW.condF rfl ?_
     refine AW.exit ?_
     try simp only [thenS, inBlockS, ↓reduceIte, Nat.reduceEqDiff]
     apply AW.seq
     refine AW.freezeH 15 1 32 (P.map stD) rfl rfl rfl zT14 rfl rfl (by rw [List.length_map, hPk]) zT15 (rowsF (enc := stD) (sz := 2) (l := P) (fun _ => rfl) rfl) ?_
     apply AW.region
     iterate 2 refine AL.z ?_
     refine AL.y ?_
     iterate 2 refine AL.z ?_
     apply AL.nil
     try simp only [nd, setL, V.cs, nz, Nat.reduceAdd, nm, ns]
     apply AW.ret
     exact ⟨[_, _, _], ⟨⟨2, 0, _, _, rfl, rfl, rfl, Tryz.underlying24, .inr ⟨rfl, _, _, _, _, inf24, rfl, rfl, rfl⟩⟩, rfl, rfl, trivial⟩, .inr ⟨rfl, rfl⟩, by simp [tupOf, V.pure, V.has, V.hasL]⟩
    have hpush'' := hpush.mono fun v hv => show v = .tup [.agg [.i 0, .nil], .i 0, .i (pushE m)] by
     rcases hv with ⟨_, hv⟩ | ⟨h1, _⟩
     ·exact hv
     exact absurd h1 hpe
    rw [hE]
    obtain ⟨e, he⟩ : ∃ e, pushE m = e := ⟨_, rfl⟩
    rw [he] at hpe hpush'' ⊢
    clear hE h0 hdi hfl hpush he
    obtain ⟨st, sts⟩ := m
    refine FnP.intro (n := 144) ⟨Tryz.func7, rfl, rfl, rfl, rfl⟩ zT8 zT16 fun w0 out hpre => ?_
    apply AW.sr
    refine AL.sm rfl (sm_box 1 rfl rfl rfl rfl rfl) ?_
    refine AL.sm rfl (sm_alloc (l := [.d (.p (.int .i64 0)), .d (.p (.slice none 0 0))]) 2 inf24 rfl rfl rfl rfl) ?_
    iterate 2 refine AL.z ?_
    apply AL.nil
    try simp only [nd, setL, V.cs, nz, Nat.reduceAdd, nm, ns, enum]
    apply AW.sr
    refine AL.z ?_
    refine AL.call (post := ?pc10) rfl (sm_call (args := [_]) ?hc10 ⟨Tryz.func14, rfl, rfl, rfl, rfl⟩ rfl rfl rfl rfl) ?_
    case hc10 => exact hbits
    rintro _ rfl -
    try dsimp only
    iterate 3 refine AL.z ?_
    refine AL.sm rfl (sm_alloc (l := [.d (.p (.bool false)), .d (.p (.bool false)), .d (.p (.bool false)), .d (.p (.bool false)), .d (.p (.bool false))]) 5 inf37 rfl rfl rfl rfl) ?_
    refine AL.y ?_
    refine AL.z ?_
    apply AL.nil
    try simp only [nd, setL, V.cs, nz, Nat.reduceAdd, nm, ns]
    apply AW.seq
    apply AW.block
    apply AW.sr
    iterate 3 refine AL.z ?_
    apply AL.nil
    try simp only [nd]
    refine AW.condF rfl ?_
    apply AW.sr
    iterate 4 refine AL.z ?_
    apply AL.nil
    try simp only [nd]
    refine AW.condF rfl ?_
    apply AW.sr
    iterate 4 refine AL.z ?_
    apply AL.nil
    try simp only [nd]
    refine AW.condF rfl ?_
    apply AW.skip
    try simp only [thenS]
    apply AW.sr
    refine AL.z ?_
    refine AL.call (post := ?pc11) rfl (sm_call (args := [_]) ?hc11 ⟨Tryz.func15, rfl, rfl, rfl, rfl⟩ rfl rfl rfl rfl) ?_
    case hc11 => exact hpush''
    rintro _ rfl -
    try dsimp only
    iterate 4 refine AL.z ?_
    refine AL.sm rfl (sm_alloc (l := [.d (.p (.int .i64 0)), .d (.p (.slice none 0 0))]) 7 inf24 rfl rfl rfl rfl) ?_
    refine AL.y ?_
    iterate 2 refine AL.z ?_
    apply AL.nil
    try simp only [nd, setL, V.cs, nz, Nat.reduceAdd, nm, ns]
    apply AW.seq
    apply AW.sr
    iterate 2 refine AL.z ?_
    apply AL.nil
    try simp only [nd]
    refine AW.condT rfl ?_
    apply AW.sr
    refine AL.rp rfl rfl (rp_build (vs := []) (zs := [.d (.p (.int .i64 0)), .d (.p (.slice none 0 0))]) pl24 inf24 rfl rfl rfl rfl) ?_
    refine AL.z ?_
    refine AL.y ?_
    iterate 2 refine AL.z ?_
    apply AL.nil
    try simp only [nd, setL, V.cs, nz, Nat.reduceAdd, nm, ns]
    apply AW.ret
    exact ⟨[_, _, _], ⟨⟨2, 0, _, _, rfl, rfl, rfl, Tryz.underlying24, .inr ⟨rfl, _, _, _, _, inf24, rfl, rfl, rfl⟩⟩, rfl, rfl, trivial⟩, .inl ⟨hpe, rfl⟩, by simp [tupOf, V.pure, V.has, V.hasL]⟩
 have hE : leE m = machE m := by unfold leE; rw [if_pos h0]
 rw [prV_no h0] at hbits
 rw [hE]
 obtain ⟨e, he⟩ : ∃ e, machE m = e := ⟨_, rfl⟩
 rw [he] at hbits h0 ⊢
 obtain ⟨st, sts⟩ := m
 refine FnP.intro (n := 144) ⟨Tryz.func7, rfl, rfl, rfl, rfl⟩ zT8 zT16 fun w0 out hpre => ?_
 apply AW.sr
 refine AL.sm rfl (sm_box 1 rfl rfl rfl rfl rfl) ?_
 refine AL.sm rfl (sm_alloc (l := [.d (.p (.int .i64 0)), .d (.p (.slice none 0 0))]) 2 inf24 rfl rfl rfl rfl) ?_
 iterate 2 refine AL.z ?_
 apply AL.nil
 try simp only [nd, setL, V.cs, nz, Nat.reduceAdd, nm, ns, enum]
 apply AW.sr
 refine AL.z ?_
 refine AL.call (post := ?pc12) rfl (sm_call (args := [_]) ?hc12 ⟨Tryz.func14, rfl, rfl, rfl, rfl⟩ rfl rfl rfl rfl) ?_
 case hc12 => exact hbits
 rintro _ rfl -
 try dsimp only
 iterate 3 refine AL.z ?_
 refine AL.sm rfl (sm_alloc (l := [.d (.p (.bool false)), .d (.p (.bool false)), .d (.p (.bool false)), .d (.p (.bool false)), .d (.p (.bool false))]) 5 inf37 rfl rfl rfl rfl) ?_
 refine AL.y ?_
 refine AL.z ?_
 apply AL.nil
 try simp only [nd, setL, V.cs, nz, Nat.reduceAdd, nm, ns]
 apply AW.seq
 apply AW.block
 apply AW.sr
 iterate 3 refine AL.z ?_
 apply AL.nil
 try simp only [nd]
 refine AW.condT rfl ?_
 apply AW.sr
 refine AL.rp rfl rfl (rp_build (vs := []) (zs := [.d (.p (.int .i64 0)), .d (.p (.slice none 0 0))]) pl24 inf24 rfl rfl rfl rfl) ?_
 refine AL.z ?_
 refine AL.y ?_
 iterate 2 refine AL.z ?_
 apply AL.nil
 try simp only [nd, setL, V.cs, nz, Nat.reduceAdd, nm, ns]
 apply AW.ret
 exact ⟨[_, _, _], ⟨⟨2, 0, _, _, rfl, rfl, rfl, Tryz.underlying24, .inr ⟨rfl, _, _, _, _, inf24, rfl, rfl, rfl⟩⟩, rfl, rfl, trivial⟩, .inl ⟨h0, rfl⟩, by simp [tupOf, V.pure, V.has, V.hasL]⟩
theorem am_Least (m : Mach) : FnP preT Tryz.prog 7 [mV m] (fun v => v = .tup [mV (leM m), .i (leV m), .i (leE m)]) := (am_Least0 m).wkS (resQ_wk le_none)
section
variable {c : Cx} {s : S} {o : Oper}
theorem sm_callR {fx : Operand} {xs : Array Operand} {ts : Array TypeId} {f : FuncId} {fn : Func} {code : Code} {n : Nat} {rs : List ResultVar} {args : List V} {post : V → Prop} (hfn : Fn c.P f args post) (hpl : ∀ v, post v → v.plain) (hf : Is c.P f fn code n rs) (ho : o.op = .call { callee := .value fx, args := xs, argTypes := ts })
    (hfx : s.ev fx = some (.fn f [])) (hro : ∀ g a w, Sim c g s a w → VReps w (fun b => ¬ c.out b) g args (xs.toList.map a.eval)) (hd : dok s o = true) : StepM c o s (fun s' => ∃ v, post v ∧ v.pure ∧ s' = s.put o.dst v) := by
  intro g a w hs K Q hK
  obtain ⟨cs, hfx', hcl, hcr⟩ := fn_eval hs hfx
  obtain rfl : cs = [] := by cases cs with | nil => rfl | cons => simp at hcl
  unfold Oper.wp
  rw [exec_call (caps := []) hf ho hfx']
  simp only [Oper.upon, List.append_nil]
  refine (hfn w c.out g _ (fun b h => Nat.lt_of_lt_of_le (hs.low b h) hs.below.size) (hro g a w hs)).mono ?_
  rintro e w' ⟨v, x, rfl, h1, h2, h3, h4⟩
  refine hK g _ _ _ ⟨v, h1, h2, rfl⟩ ((hs.move h4).put o.dst (dok_spec hd) ?_) h4
  have hp := hpl v h1
  have hdp : ∀ {y z}, VRep w' (fun b => ¬ c.out b) g (.d (.p y)) z → VRep w' (qt c s.H g) g (.d (.p y)) z := fun h => by
    rw [VRep.p_eq h]; exact .d _ _ (.p _)
  cases v with
  | d dx =>
    cases dx with
    | p => exact hdp h3
    | sl => exact hp.elim
    | mp => exact hp.elim
    | mm => exact hp.elim
  | tup l =>
    cases h3 with
    | tup _ cs' hl hh =>
      refine .tup l cs' hl fun j u z hu hz => ?_
      obtain ⟨y, rfl⟩ := hp u (List.mem_of_getElem? hu)
      exact hdp (hh j _ z hu hz)
  | agg l =>
    cases h3 with
    | agg _ cs' hl hh =>
      refine .agg l cs' hl fun j u z hu hz => ?_
      obtain ⟨y, rfl⟩ := hp u (List.mem_of_getElem? hu)
      exact hdp (hh j _ z hu hz)
  | _ => exact hp.elim
end
def tG (T : List (List Bool)) (q p : Nat) : Bool := (T[q]?.getD [])[p]?.getD false
def tOk (n : Nat) (T : List (List Bool)) : Prop := T.length = n ∧ ∀ r ∈ T, r.length = n
theorem tOk.row {n : Nat} {T : List (List Bool)} (h : tOk n T) {q : Nat} (hq : q < n) : ∃ r, T[q]? = some r ∧ r.length = n ∧ ∀ p, p < n → r[p]? = some (tG T q p) := by
  have hq' : q < T.length := by rw [h.1]; exact hq
  have hr := List.getElem?_eq_getElem hq'
  have hl := h.2 _ (List.getElem_mem hq')
  refine ⟨_, hr, hl, fun p hp => ?_⟩
  unfold tG
  rw [hr]
  simp only [Option.getD_some]
  rw [List.getElem?_eq_getElem (by rw [hl]; exact hp)]
  rfl
def tP (T : List (List Bool)) (q p : Nat) : List (List Bool) := T.set q ((T[q]?.getD []).set p true)
theorem tP_ok {n : Nat} {T : List (List Bool)} (h : tOk n T) {q p : Nat} (hq : q < n) (hp : p < n) : tOk n (tP T q p) ∧ ∀ a b, tG (tP T q p) a b = true ↔ tG T a b = true ∨ (a = q ∧ b = p) := by
  obtain ⟨r, h1, h2, h3⟩ := h.row hq
  have hq' : q < T.length := by rw [h.1]; exact hq
  refine ⟨⟨by unfold tP; rw [List.length_set]; exact h.1, fun x hx => ?_⟩, fun a b => ?_⟩
  · unfold tP at hx
    rcases List.mem_or_eq_of_mem_set hx with hx | rfl
    · exact h.2 x hx
    rw [h1]; simp [h2]
  unfold tG tP
  by_cases e : a = q
  · subst e
    rw [List.getElem?_set_self hq', h1]
    simp only [Option.getD_some]
    by_cases e2 : b = p
    · subst e2
      rw [List.getElem?_set_self (by rw [h2]; exact hp)]
      simp
    rw [List.getElem?_set_ne (Ne.symm e2)]
    simp [e2]
  rw [List.getElem?_set_ne (Ne.symm e)]
  simp [e]
/-- How many pairs are not yet told apart. -/
def nF (T : List (List Bool)) : Nat := (T.map fun r => r.countP fun b => !b).sum
theorem cnt_set {r : List Bool} {p : Nat} (h : r[p]? = some false) : (r.set p true).countP (fun b => !b) + 1 = r.countP fun b => !b := by
  induction r generalizing p with
  | nil => simp at h
  | cons x r ih =>
    cases p with
    | zero =>
      simp at h
      subst h
      simp [List.countP_cons]
    | succ p =>
      simp at h
      have := ih h
      simp only [List.set_cons_succ, List.countP_cons]
      omega
theorem sum_setF : ∀ {T : List (List Bool)} {q : Nat} {r r' : List Bool}, T[q]? = some r → r'.countP (fun b => !b) + 1 = r.countP (fun b => !b) → nF (T.set q r') + 1 = nF T
  | [], q, r, r', h, _ => by simp at h
  | x :: T, 0, r, r', h, h2 => by
    simp at h
    subst h
    simp only [nF, List.set_cons_zero, List.map_cons, List.sum_cons]
    omega
  | x :: T, q + 1, r, r', h, h2 => by
    have ih := sum_setF (T := T) (q := q) (r := r) (r' := r') (by simpa using h) h2
    simp only [nF, List.set_cons_succ, List.map_cons, List.sum_cons] at ih ⊢
    omega
theorem tP_less {n : Nat} {T : List (List Bool)} (h : tOk n T) {q p : Nat} (hq : q < n) (hp : p < n) (hf : tG T q p = false) : nF (tP T q p) + 1 = nF T := by
  obtain ⟨r, h1, h2, h3⟩ := h.row hq
  unfold tP
  rw [h1]
  refine sum_setF h1 (cnt_set (r := r) ?_)
  rw [h3 p hp, hf]
def apA (T : List (List Bool)) : List Ar → List Ar → Bool
  | a :: l, b :: r => if a.i = b.i ∧ a.o = b.o ∧ a.w = b.w ∧ tG T a.t.toNat b.t.toNat = false then apA T l r else true
  | _, _ => false
def apB (T : List (List Bool)) (x y : St) : Bool := if x.fin = y.fin ∧ x.arcs.length = y.arcs.length then apA T x.arcs y.arcs else true
theorem apA_iff {T : List (List Bool)} : ∀ {l r : List Ar}, l.length = r.length → (apA T l r = false ↔ ∀ (i : Nat) (a b : Ar), l[i]? = some a → r[i]? = some b → a.i = b.i ∧ a.o = b.o ∧ a.w = b.w ∧ tG T a.t.toNat b.t.toNat = false)
  | [], [], _ => by simp [apA]
  | [], b :: r, h => by simp at h
  | a :: l, [], h => by simp at h
  | a :: l, b :: r, h => by
    have ih := apA_iff (T := T) (l := l) (r := r) (by simpa using h)
    rw [apA]
    by_cases e : a.i = b.i ∧ a.o = b.o ∧ a.w = b.w ∧ tG T a.t.toNat b.t.toNat = false
    · rw [if_pos e, ih]
      constructor
      · intro h1 i a' b' h2 h3
        cases i with
        | zero =>
          simp at h2 h3
          subst h2 h3
          exact e
        | succ i => exact h1 i a' b' (by simpa using h2) (by simpa using h3)
      intro h1 i a' b' h2 h3
      exact h1 (i + 1) a' b' (by simpa using h2) (by simpa using h3)
    rw [if_neg e]
    constructor
    · intro h1; cases h1
    intro h1
    exact absurd (h1 0 a b rfl rfl) e
theorem apB_iff {T : List (List Bool)} {x y : St} : apB T x y = true ↔ apP (fun q p => tG T q p = true) x y := by
  have h : apB T x y = false ↔ agr (fun q p => ¬ tG T q p = true) x y := by
    unfold apB agr
    by_cases e : x.fin = y.fin ∧ x.arcs.length = y.arcs.length
    · rw [if_pos e, apA_iff e.2]
      simp only [e.1, e.2, true_and, Bool.not_eq_true]
    rw [if_neg e]
    constructor
    · intro h; cases h
    intro h; exact absurd ⟨h.1, h.2.1⟩ e
  unfold apP
  rw [← h]
  cases apB T x y <;> simp
/-- A pass over the table: what has been seen by now. -/
structure Psg (n : Nat) (sts : List St) (T0 : List (List Bool)) (q p : Nat) (ag : Bool) (T : List (List Bool)) : Prop where
  ok : tOk n T
  tel : telI sts fun q p => tG T q p = true
  le : nF T ≤ nF T0
  old : ag = false → T = T0
  lt : ag = true → nF T < nF T0
  done : ag = false → ∀ a b x y, (a < q ∨ a = q ∧ b < p) → b < n → sts[a]? = some x → sts[b]? = some y → tG T0 a b = false → apB T0 x y = false
theorem Psg.begin {n : Nat} {sts : List St} {T : List (List Bool)} (h : tOk n T) (ht : telI sts fun q p => tG T q p = true) : Psg n sts T 0 0 false T :=
  ⟨h, ht, Nat.le_refl _, fun _ => rfl, fun h => (by cases h), fun _ a b x y h _ => by omega⟩
theorem Psg.skip {n : Nat} {sts : List St} {T0 T : List (List Bool)} {q p : Nat} {ag : Bool} {x y : St} (h : Psg n sts T0 q p ag T) (hx : sts[q]? = some x) (hy : sts[p]? = some y) (hs : tG T q p = true ∨ apB T x y = false) : Psg n sts T0 q (p + 1) ag T :=
  ⟨h.ok, h.tel, h.le, h.old, h.lt, fun ha a b x' y' hab hb h1 h2 h3 => by
    by_cases e : a = q ∧ b = p
    · obtain ⟨rfl, rfl⟩ := e
      rw [h1] at hx
      rw [h2] at hy
      cases hx
      cases hy
      rw [h.old ha] at hs
      rcases hs with hs | hs
      · rw [hs] at h3; cases h3
      exact hs
    exact h.done ha a b x' y' zT15 hb h1 h2 h3⟩
theorem Psg.put {n : Nat} {sts : List St} {T0 T : List (List Bool)} {q p : Nat} {ag : Bool} {x y : St} (h : Psg n sts T0 q p ag T) (hq : q < n) (hp : p < n) (hx : sts[q]? = some x) (hy : sts[p]? = some y) (h1 : tG T q p = false) (h2 : apB T x y = true) : Psg n sts T0 q (p + 1) true (tP T q p) := by
  obtain ⟨k1, k2⟩ := tP_ok h.ok hq hp
  have k3 := tP_less h.ok hq hp h1
  have k4 := h.le
  refine ⟨k1, ?_, by omega, fun h => (by cases h), fun _ => by omega, fun h => (by cases h)⟩
  have := telI_put h.tel hx hy (apB_iff.1 h2)
  intro a b hab
  exact this a b ((k2 a b).1 hab)
theorem Psg.row {n : Nat} {sts : List St} {T0 T : List (List Bool)} {q : Nat} {ag : Bool} (h : Psg n sts T0 q n ag T) : Psg n sts T0 (q + 1) 0 ag T :=
  ⟨h.ok, h.tel, h.le, h.old, h.lt, fun ha a b x' y' hab hb h1 h2 h3 => h.done ha a b x' y' zT15 hb h1 h2 h3⟩
theorem Psg.end {sts : List St} {T0 T : List (List Bool)} (ht : tin sts) (h : Psg sts.length sts T0 sts.length 0 false T) {q p : Nat} (hq : q < sts.length) (hp : p < sts.length) : tG T q p = false ↔ sim sts q p := by
  have := telI_done ht h.tel (fun a b x y h1 h2 h3 h4 => by
    have ha : a < sts.length := (List.getElem?_eq_some_iff.1 h1).1
    have hb : b < sts.length := (List.getElem?_eq_some_iff.1 h2).1
    have e := h.old rfl
    have h5 := h.done rfl a b x y (.inl ha) hb h1 h2 (by rw [← e]; simpa using h3)
    have h6 := apB_iff.2 h4
    rw [e, h5] at h6
    cases h6) hq hp
  rw [← this]
  simp
def fT (n : Nat) : List (List Bool) := List.replicate n (List.replicate n false)
theorem fT_ok (n : Nat) : tOk n (fT n) := ⟨by simp [fT], fun r hr => by rw [List.eq_of_mem_replicate hr]; simp⟩
theorem fT_no (n q p : Nat) : ¬ tG (fT n) q p = true := by
  unfold tG fT
  rw [List.getElem?_replicate]
  split
  · simp [List.getElem?_replicate]
    split <;> simp
  simp
abbrev encT' (b : Bool) : List D := [.p (.bool b)]
abbrev tabE (r : List Bool) : List D := [.sl 1 1 (r.map encT')]
theorem apA_drop {T : List (List Bool)} {l r : List Ar} {i : Nat} {a b : Ar} {p q : Nat} {R tb : Bool} (ha : l[i]? = some a) (hb : r[i]? = some b) (h : apA T (l.drop i) (r.drop i) = R) (hp : a.t = (p : Int)) (hq : b.t = (q : Int)) (ht : tG T p q = tb) :
  ((a.i = b.i ∧ a.o = b.o ∧ a.w = b.w ∧ tb = false) → apA T (l.drop (i + 1)) (r.drop (i + 1)) = R) ∧ (¬ (a.i = b.i ∧ a.o = b.o ∧ a.w = b.w ∧ tb = false) → R = true) := by
 have h1 : l.drop i = a :: l.drop (i + 1) := by
  have hi := (List.getElem?_eq_some_iff.1 ha)
  rw [List.drop_eq_getElem_cons hi.1, hi.2]
 have h2 : r.drop i = b :: r.drop (i + 1) := by
  have hi := (List.getElem?_eq_some_iff.1 hb)
  rw [List.drop_eq_getElem_cons hi.1, hi.2]
 have h3 : tG T a.t.toNat b.t.toNat = tb := by rw [hp, hq]; exact ht
 subst h3
 rw [h1, h2, apA] at h
 constructor
 ·intro hc
  rw [if_pos hc] at h
  exact h
 intro hc
 rw [if_neg hc] at h
 exact h.symm
theorem am_apart (n : Nat) (T : List (List Bool)) (hT : tOk n T) (x y : St) (hx4 : x.arcs.length ≤ 400) (hx : ∀ a ∈ x.arcs, 0 ≤ a.t ∧ a.t < n) (hy : ∀ a ∈ y.arcs, 0 ≤ a.t ∧ a.t < n) : Fn Tryz.prog 50 [.agg [.i x.fin, .d (arsD x.arcs)], .agg [.i y.fin, .d (arsD y.arcs)], .d (.sl 1 24 (T.map tabE))] (fun v => v = .b (apB T x y)) := by
 obtain ⟨f, A⟩ := x
 obtain ⟨g, B⟩ := y
 simp only at hx4 hx hy
 obtain ⟨la, hla⟩ : ∃ la, A.length = la := ⟨_, rfl⟩
 obtain ⟨lb, hlb⟩ : ∃ lb, B.length = lb := ⟨_, rfl⟩
 by_cases hf : f = g
 ·by_cases hl : la = lb
  ·subst hf hl
   have hR : apB T ⟨f, A⟩ ⟨f, B⟩ = apA T A B := by unfold apB; rw [if_pos ⟨rfl, by simp only; rw [hla, hlb]⟩]
   rw [hR]
   obtain ⟨R, hRd⟩ : ∃ R, apA T A B = R := ⟨_, rfl⟩
   rw [hRd]
   clear hR
   refine Fn.intro (n := 71) ⟨Tryz.func50, rfl, rfl, rfl, rfl⟩ zT8 zT16 fun w0 out => ?_
   apply AW.sr
   refine AL.sm rfl (sm_box 3 rfl rfl rfl rfl rfl) ?_
   refine AL.sm rfl (sm_box 4 rfl rfl rfl rfl rfl) ?_
   refine AL.z ?_
   apply AL.nil
   try simp only [nd, setL, V.cs, nz, Nat.reduceAdd, nm, ns, enum]
   apply AW.seq
   apply AW.sr
   iterate 6 refine AL.z ?_
   iterate 7 refine AL.zy ?_
   refine AL.z ?_
   apply AL.nil
   try simp only [nd]
   refine AW.condF rfl ?_
   apply AW.skip
   try simp only [thenS]
   apply AW.seq
   apply AW.sr
   refine AL.z ?_
   apply AL.nil
   try simp only [nd]
   apply AW.block
   refine AW.loop (fun s' => ∃ i : Nat, i ≤ la ∧ apA T (A.drop i) (B.drop i) = R ∧ s' = ⟨71, [(2, .d (.sl 1 24 (T.map tabE))), (3, .ref 3 0), (4, .ref 4 0), (7, .i i)], [(3, ⟨35, [.i f, .d (arsD A)], false, 0⟩), (4, ⟨35, [.i f, .d (arsD B)], false, 0⟩)], []⟩) (fun s' => la - s'.nat 7) ⟨_, ?_, 0, by omega, hRd, rfl⟩ ?_
   ·exact Less.a0
   clear hRd
   rintro s' ⟨i, hi, hRd, rfl⟩
   by_cases hlt : i < la
   ·obtain ⟨a, ha⟩ := get_lt hla hlt
    obtain ⟨b, hb⟩ := get_lt hlb hlt
    obtain ⟨a1, a2⟩ := hx a (List.mem_of_getElem? ha)
    obtain ⟨b1, b2⟩ := hy b (List.mem_of_getElem? hb)
    obtain ⟨ai, ao, aw, at'⟩ := a
    obtain ⟨bi, bo, bw, bt⟩ := b
    simp only at a1 a2 b1 b2
    obtain ⟨p, rfl⟩ := Int.eq_ofNat_of_zero_le a1
    obtain ⟨q, rfl⟩ := Int.eq_ofNat_of_zero_le b1
    obtain ⟨r, h1, h2, h3⟩ := hT.row (q := p) zT15
    have h4 := h3 q zT15
    clear h3
    obtain ⟨tb, htb⟩ : ∃ tb, tG T p q = tb := ⟨_, rfl⟩
    rw [htb] at h4
    obtain ⟨hyes, hno⟩ := apA_drop ha hb hRd rfl rfl htb
    simp only at hyes hno
    clear htb hRd
    by_cases c1 : ai = bi
    ·by_cases c2 : ao = bo
     ·by_cases c3 : aw = bw
      ·cases tb with
       | true =>
        have hRt := hno zT16
        subst hRt
        apply AW.seq
        apply AW.sr
        iterate 5 refine AL.z ?_
        apply AL.nil
        try simp only [nd]
        refine AW.condT rfl ?_
        apply AW.skip
        try simp only [thenS]
        apply AW.seq
        apply AW.block
        apply AW.sr
        iterate 5 refine AL.z ?_
        refine AL.sm rfl (sm_alloc (l := [.d (.p (.int .i64 0)), .d (.p (.int .i64 0)), .d (.p (.int .i64 0)), .d (.p (.int .i64 0))]) 8 inf47 rfl rfl rfl rfl) ?_
        refine AL.y ?_
        apply AL.nil
        try simp only [nd, setL, V.cs, nz, Nat.reduceAdd, nm, ns]
        apply AW.sr
        iterate 5 refine AL.z ?_
        refine AL.sm rfl (sm_alloc (l := [.d (.p (.int .i64 0)), .d (.p (.int .i64 0)), .d (.p (.int .i64 0)), .d (.p (.int .i64 0))]) 9 inf47 rfl rfl rfl rfl) ?_
        refine AL.y ?_
        apply AL.nil
        try simp only [nd, setL, V.cs, nz, Nat.reduceAdd, nm, ns]
        apply AW.seq
        refine AW.draw [(0, true), (1, true), (2, true), (3, true), (4, true), (5, true), (6, true), (7, true), (8, true), (9, true), (10, true), (11, true), (12, true), (13, true), (14, true), (15, true), (16, true), (17, true), (18, true), (19, true), (20, true), (21, true), (22, true), (23, true), (24, true), (25, true), (26, true), (27, true), (28, true), (29, true)] (fun i => !([] : List Nat).contains i) 30 zT12 zT12 rfl zT12 ?_
        iterate 6 refine AD1.z ?_
        iterate 5 refine AD1.zy ?_
        iterate 2 refine AD1.z ?_
        iterate 5 refine AD1.zy ?_
        iterate 2 refine AD1.z ?_
        iterate 9 refine AD1.zy ?_
        refine AD1.z ?_
        refine AD1.nil ?_
        try simp only [nd]
        refine AW.condT rfl ?_
        apply AW.sr
        refine AL.z ?_
        apply AL.nil
        try simp only [nd]
        apply AW.ret
        exact ⟨[_], ⟨rfl, trivial⟩, rfl, by simp [tupOf, V.pure, V.has, V.hasL]⟩
       | false =>
        have hRd := hyes ⟨c1, c2, c3, rfl⟩
        apply AW.seq
        apply AW.sr
        iterate 5 refine AL.z ?_
        apply AL.nil
        try simp only [nd]
        refine AW.condT rfl ?_
        apply AW.skip
        try simp only [thenS]
        apply AW.seq
        apply AW.block
        apply AW.sr
        iterate 5 refine AL.z ?_
        refine AL.sm rfl (sm_alloc (l := [.d (.p (.int .i64 0)), .d (.p (.int .i64 0)), .d (.p (.int .i64 0)), .d (.p (.int .i64 0))]) 8 inf47 rfl rfl rfl rfl) ?_
        refine AL.y ?_
        apply AL.nil
        try simp only [nd, setL, V.cs, nz, Nat.reduceAdd, nm, ns]
        apply AW.sr
        iterate 5 refine AL.z ?_
        refine AL.sm rfl (sm_alloc (l := [.d (.p (.int .i64 0)), .d (.p (.int .i64 0)), .d (.p (.int .i64 0)), .d (.p (.int .i64 0))]) 9 inf47 rfl rfl rfl rfl) ?_
        refine AL.y ?_
        apply AL.nil
        try simp only [nd, setL, V.cs, nz, Nat.reduceAdd, nm, ns]
        apply AW.seq
        refine AW.draw [(0, true), (1, true), (2, true), (3, true), (4, true), (5, true), (6, true), (7, true), (8, true), (9, true), (10, true), (11, true), (12, true), (13, true), (14, true), (15, true), (16, true), (17, true), (18, true), (19, true), (20, true), (21, true), (22, true), (23, true), (24, true), (25, true), (26, true), (27, true), (28, true), (29, true)] (fun i => !([] : List Nat).contains i) 30 zT12 zT12 rfl zT12 ?_
        iterate 6 refine AD1.z ?_
        iterate 5 refine AD1.zy ?_
        iterate 2 refine AD1.z ?_
        iterate 5 refine AD1.zy ?_
        iterate 2 refine AD1.z ?_
        iterate 9 refine AD1.zy ?_
        refine AD1.z ?_
        refine AD1.nil ?_
        try simp only [nd]
        refine AW.condF rfl ?_
        apply AW.skip
        try simp only [thenS]
        apply AW.region
        iterate 3 refine AL.z ?_
        apply AL.nil
        try simp only [nd]
        refine ⟨_, ?_, ⟨i + 1, by omega, hRd, rfl⟩, ?_⟩
        ·exact Less.a0
        simp [S.nat, fnd]; omega
      have hRt := hno (by simp [c3])
      subst hRt
      apply AW.seq
      apply AW.sr
      iterate 5 refine AL.z ?_
      apply AL.nil
      try simp only [nd]
      refine AW.condT rfl ?_
      apply AW.skip
      try simp only [thenS]
      apply AW.seq
      apply AW.block
      apply AW.sr
      iterate 5 refine AL.z ?_
      refine AL.sm rfl (sm_alloc (l := [.d (.p (.int .i64 0)), .d (.p (.int .i64 0)), .d (.p (.int .i64 0)), .d (.p (.int .i64 0))]) 8 inf47 rfl rfl rfl rfl) ?_
      refine AL.y ?_
      apply AL.nil
      try simp only [nd, setL, V.cs, nz, Nat.reduceAdd, nm, ns]
      apply AW.sr
      iterate 5 refine AL.z ?_
      refine AL.sm rfl (sm_alloc (l := [.d (.p (.int .i64 0)), .d (.p (.int .i64 0)), .d (.p (.int .i64 0)), .d (.p (.int .i64 0))]) 9 inf47 rfl rfl rfl rfl) ?_
      refine AL.y ?_
      apply AL.nil
      try simp only [nd, setL, V.cs, nz, Nat.reduceAdd, nm, ns]
      apply AW.seq
      refine AW.draw [(0, true), (1, true), (2, true), (3, true), (4, true), (5, true), (6, true), (7, true), (8, true), (9, true), (10, true), (11, true), (12, true), (13, true), (14, true), (15, true), (16, true), (17, true), (18, true), (19, true), (20, true), (21, true), (22, true), (23, true), (24, true), (25, true), (26, true), (27, true), (28, true), (29, true)] (fun i => !([] : List Nat).contains i) 30 zT12 zT12 rfl zT12 ?_
      iterate 6 refine AD1.z ?_
      iterate 5 refine AD1.zy ?_
      iterate 2 refine AD1.z ?_
      iterate 5 refine AD1.zy ?_
      iterate 2 refine AD1.z ?_
      refine AD1.noV rfl rfl rfl rfl rfl (fun _ _ h => h) ?_
      refine AD1.noV rfl rfl rfl rfl rfl (fun _ _ h => h) ?_
      refine AD1.noV rfl rfl rfl rfl rfl (fun _ _ h => h) ?_
      refine AD1.noV rfl rfl rfl rfl rfl (fun _ _ h => h) ?_
      refine AD1.noV rfl rfl rfl rfl rfl (fun _ _ h => h) ?_
      refine AD1.noV rfl rfl rfl rfl rfl (fun _ _ h => h) ?_
      refine AD1.noV rfl rfl rfl rfl rfl (fun _ _ h => h) ?_
      refine AD1.noV rfl rfl rfl rfl rfl (fun _ _ h => h) ?_
      refine AD1.noV rfl rfl rfl rfl rfl (fun _ _ h => h) ?_
      refine AD1.z ?_
      refine AD1.nil ?_
      try simp only [nd]
      refine AW.condT rfl ?_
      apply AW.sr
      refine AL.z ?_
      apply AL.nil
      try simp only [nd]
      apply AW.ret
      exact ⟨[_], ⟨rfl, trivial⟩, rfl, by simp [tupOf, V.pure, V.has, V.hasL]⟩
     have hRt := hno (by simp [c2])
     subst hRt
     apply AW.seq
     apply AW.sr
     iterate 5 refine AL.z ?_
     apply AL.nil
     try simp only [nd]
     refine AW.condT rfl ?_
     apply AW.skip
     try simp only [thenS]
     apply AW.seq
     apply AW.block
     apply AW.sr
     iterate 5 refine AL.z ?_
     refine AL.sm rfl (sm_alloc (l := [.d (.p (.int .i64 0)), .d (.p (.int .i64 0)), .d (.p (.int .i64 0)), .d (.p (.int .i64 0))]) 8 inf47 rfl rfl rfl rfl) ?_
     refine AL.y ?_
     apply AL.nil
     try simp only [nd, setL, V.cs, nz, Nat.reduceAdd, nm, ns]
     apply AW.sr
     iterate 5 refine AL.z ?_
     refine AL.sm rfl (sm_alloc (l := [.d (.p (.int .i64 0)), .d (.p (.int .i64 0)), .d (.p (.int .i64 0)), .d (.p (.int .i64 0))]) 9 inf47 rfl rfl rfl rfl) ?_
     refine AL.y ?_
     apply AL.nil
     try simp only [nd, setL, V.cs, nz, Nat.reduceAdd, nm, ns]
     apply AW.seq
     refine AW.draw [(0, true), (1, true), (2, true), (3, true), (4, true), (5, true), (6, true), (7, true), (8, true), (9, true), (10, true), (11, true), (12, true), (13, true), (14, true), (15, true), (16, true), (17, true), (18, true), (19, true), (20, true), (21, true), (22, true), (23, true), (24, true), (25, true), (26, true), (27, true), (28, true), (29, true)] (fun i => !([] : List Nat).contains i) 30 zT12 zT12 rfl zT12 ?_
     iterate 6 refine AD1.z ?_
     iterate 5 refine AD1.zy ?_
     iterate 2 refine AD1.z ?_
     refine AD1.noV rfl rfl rfl rfl rfl (fun _ _ h => h) ?_
     refine AD1.noV rfl rfl rfl rfl rfl (fun _ _ h => h) ?_
     refine AD1.noV rfl rfl rfl rfl rfl (fun _ _ h => h) ?_
     refine AD1.noV rfl rfl rfl rfl rfl (fun _ _ h => h) ?_
     refine AD1.noV rfl rfl rfl rfl rfl (fun _ _ h => h) ?_
     iterate 2 refine AD1.z ?_
     refine AD1.noV rfl rfl rfl rfl rfl (fun _ _ h => h) ?_
     refine AD1.noV rfl rfl rfl rfl rfl (fun _ _ h => h) ?_
     refine AD1.noV rfl rfl rfl rfl rfl (fun _ _ h => h) ?_
     refine AD1.noV rfl rfl rfl rfl rfl (fun _ _ h => h) ?_
     refine AD1.noV rfl rfl rfl rfl rfl (fun _ _ h => h) ?_
     refine AD1.noV rfl rfl rfl rfl rfl (fun _ _ h => h) ?_
     refine AD1.noV rfl rfl rfl rfl rfl (fun _ _ h => h) ?_
     refine AD1.noV rfl rfl rfl rfl rfl (fun _ _ h => h) ?_
     refine AD1.noV rfl rfl rfl rfl rfl (fun _ _ h => h) ?_
     refine AD1.z ?_
     refine AD1.nil ?_
     try simp only [nd]
     refine AW.condT rfl ?_
     apply AW.sr
     refine AL.z ?_
     apply AL.nil
     try simp only [nd]
     apply AW.ret
     exact ⟨[_], ⟨rfl, trivial⟩, rfl, by simp [tupOf, V.pure, V.has, V.hasL]⟩
    have hRt := hno (by simp [c1])
    subst hRt
    apply AW.seq
    apply AW.sr
    iterate 5 refine AL.z ?_
    apply AL.nil
    try simp only [nd]
    refine AW.condT rfl ?_
    apply AW.skip
    try simp only [thenS]
    apply AW.seq
    apply AW.block
    apply AW.sr
    iterate 5 refine AL.z ?_
    refine AL.sm rfl (sm_alloc (l := [.d (.p (.int .i64 0)), .d (.p (.int .i64 0)), .d (.p (.int .i64 0)), .d (.p (.int .i64 0))]) 8 inf47 rfl rfl rfl rfl) ?_
    refine AL.y ?_
    apply AL.nil
    try simp only [nd, setL, V.cs, nz, Nat.reduceAdd, nm, ns]
    apply AW.sr
    iterate 5 refine AL.z ?_
    refine AL.sm rfl (sm_alloc (l := [.d (.p (.int .i64 0)), .d (.p (.int .i64 0)), .d (.p (.int .i64 0)), .d (.p (.int .i64 0))]) 9 inf47 rfl rfl rfl rfl) ?_
    refine AL.y ?_
    apply AL.nil
    try simp only [nd, setL, V.cs, nz, Nat.reduceAdd, nm, ns]
    apply AW.seq
    refine AW.draw [(0, true), (1, true), (2, true), (3, true), (4, true), (5, true), (6, true), (7, true), (8, true), (9, true), (10, true), (11, true), (12, true), (13, true), (14, true), (15, true), (16, true), (17, true), (18, true), (19, true), (20, true), (21, true), (22, true), (23, true), (24, true), (25, true), (26, true), (27, true), (28, true), (29, true)] (fun i => !([] : List Nat).contains i) 30 zT12 zT12 rfl zT12 ?_
    iterate 6 refine AD1.z ?_
    refine AD1.noV rfl rfl rfl rfl rfl (fun _ _ h => h) ?_
    refine AD1.noV rfl rfl rfl rfl rfl (fun _ _ h => h) ?_
    refine AD1.noV rfl rfl rfl rfl rfl (fun _ _ h => h) ?_
    refine AD1.noV rfl rfl rfl rfl rfl (fun _ _ h => h) ?_
    refine AD1.noV rfl rfl rfl rfl rfl (fun _ _ h => h) ?_
    iterate 2 refine AD1.z ?_
    refine AD1.noV rfl rfl rfl rfl rfl (fun _ _ h => h) ?_
    refine AD1.noV rfl rfl rfl rfl rfl (fun _ _ h => h) ?_
    refine AD1.noV rfl rfl rfl rfl rfl (fun _ _ h => h) ?_
    refine AD1.noV rfl rfl rfl rfl rfl (fun _ _ h => h) ?_
    refine AD1.noV rfl rfl rfl rfl rfl (fun _ _ h => h) ?_
    iterate 2 refine AD1.z ?_
    refine AD1.noV rfl rfl rfl rfl rfl (fun _ _ h => h) ?_
    refine AD1.noV rfl rfl rfl rfl rfl (fun _ _ h => h) ?_
    refine AD1.noV rfl rfl rfl rfl rfl (fun _ _ h => h) ?_
    refine AD1.noV rfl rfl rfl rfl rfl (fun _ _ h => h) ?_
    refine AD1.noV rfl rfl rfl rfl rfl (fun _ _ h => h) ?_
    refine AD1.noV rfl rfl rfl rfl rfl (fun _ _ h => h) ?_
    refine AD1.noV rfl rfl rfl rfl rfl (fun _ _ h => h) ?_
    refine AD1.noV rfl rfl rfl rfl rfl (fun _ _ h => h) ?_
    refine AD1.noV rfl rfl rfl rfl rfl (fun _ _ h => h) ?_
    refine AD1.z ?_
    refine AD1.nil ?_
    try simp only [nd]
    refine AW.condT rfl ?_
    apply AW.sr
    refine AL.z ?_
    apply AL.nil
    try simp only [nd]
    apply AW.ret
    exact ⟨[_], ⟨rfl, trivial⟩, rfl, by simp [tupOf, V.pure, V.has, V.hasL]⟩
   obtain rfl : i = la := by omega
   rw [List.drop_eq_nil_of_le zT15, List.drop_eq_nil_of_le zT15] at hRd
   have : R = false := hRd.symm
   subst this
   apply AW.seq
   apply AW.sr
   iterate 5 refine AL.z ?_
   apply AL.nil
   try simp only [nd]
   refine AW.condF rfl ?_
   refine AW.exit ?_
   try simp only [thenS, inBlockS, ↓reduceIte, Nat.reduceEqDiff]
   apply AW.sr
   refine AL.z ?_
   apply AL.nil
   try simp only [nd]
   apply AW.ret
   exact ⟨[_], ⟨rfl, trivial⟩, rfl, by simp [tupOf, V.pure, V.has, V.hasL]⟩
  have hR : apB T ⟨f, A⟩ ⟨g, B⟩ = true := by unfold apB; rw [if_neg (by simp only; omega)]
  rw [hR]
  refine Fn.intro (n := 71) ⟨Tryz.func50, rfl, rfl, rfl, rfl⟩ zT8 zT16 fun w0 out => ?_
  apply AW.sr
  refine AL.sm rfl (sm_box 3 rfl rfl rfl rfl rfl) ?_
  refine AL.sm rfl (sm_box 4 rfl rfl rfl rfl rfl) ?_
  refine AL.z ?_
  apply AL.nil
  try simp only [nd, setL, V.cs, nz, Nat.reduceAdd, nm, ns, enum]
  apply AW.seq
  apply AW.sr
  iterate 6 refine AL.z ?_
  iterate 7 refine AL.zy ?_
  refine AL.z ?_
  apply AL.nil
  try simp only [nd]
  refine AW.condT rfl ?_
  apply AW.sr
  refine AL.z ?_
  apply AL.nil
  try simp only [nd]
  apply AW.ret
  exact ⟨[_], ⟨rfl, trivial⟩, rfl, by simp [tupOf, V.pure, V.has, V.hasL]⟩
 have hR : apB T ⟨f, A⟩ ⟨g, B⟩ = true := by unfold apB; rw [if_neg (by simp [hf])]
 rw [hR]
 refine Fn.intro (n := 71) ⟨Tryz.func50, rfl, rfl, rfl, rfl⟩ zT8 zT16 fun w0 out => ?_
 apply AW.sr
 refine AL.sm rfl (sm_box 3 rfl rfl rfl rfl rfl) ?_
 refine AL.sm rfl (sm_box 4 rfl rfl rfl rfl rfl) ?_
 refine AL.z ?_
 apply AL.nil
 try simp only [nd, setL, V.cs, nz, Nat.reduceAdd, nm, ns, enum]
 apply AW.seq
 apply AW.sr
 iterate 6 refine AL.z ?_
 refine AL.noV rfl rfl rfl rfl ?_
 refine AL.noV rfl rfl rfl rfl ?_
 refine AL.noV rfl rfl rfl rfl ?_
 refine AL.noV rfl rfl rfl rfl ?_
 refine AL.noV rfl rfl rfl rfl ?_
 refine AL.noV rfl rfl rfl rfl ?_
 refine AL.noV rfl rfl rfl rfl ?_
 refine AL.z ?_
 apply AL.nil
 try simp only [nd]
 refine AW.condT rfl ?_
 apply AW.sr
 refine AL.z ?_
 apply AL.nil
 try simp only [nd]
 apply AW.ret
 exact ⟨[_], ⟨rfl, trivial⟩, rfl, by simp [tupOf, V.pure, V.has, V.hasL]⟩
end Go.Proofs.YthiknkcigcglkaaGreatDoor
