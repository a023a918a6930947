/- Part 14 of what the law LeastMakes rests on. -/
import Derived.Test.YthiknkcigcglkaaGreatDoorPkLe1
import Derived.Test.YthiknkcigcglkaaGreatDoorPkLe2
import Derived.Test.YthiknkcigcglkaaGreatDoorPkLe3
import Derived.Test.YthiknkcigcglkaaGreatDoorPkLe4
import Derived.Test.YthiknkcigcglkaaGreatDoorPkLe5
import Derived.Test.YthiknkcigcglkaaGreatDoorPkLe6
import Derived.Test.YthiknkcigcglkaaGreatDoorPkLe7
import Derived.Test.YthiknkcigcglkaaGreatDoorPkLe8
import Derived.Test.YthiknkcigcglkaaGreatDoorPkLe9
import Derived.Test.YthiknkcigcglkaaGreatDoorPkLe10
import Derived.Test.YthiknkcigcglkaaGreatDoorPkLe11
import Derived.Test.YthiknkcigcglkaaGreatDoorPkLe12
import Derived.Test.YthiknkcigcglkaaGreatDoorPkLe13
namespace Go.Proofs.YthiknkcigcglkaaGreatDoor
open Go.RowKit
set_option linter.unusedSimpArgs false
set_option linter.unusedVariables false
set_option maxRecDepth 100000
set_option maxHeartbeats 8000000
def FT : Fam (List Bool) := ⟨4, 1, 1, fun _ => [], fun r => r.map encT'⟩
theorem ft_rows : ∀ x : List Bool, ∀ l ∈ FT.it x, l.length = FT.sz := by
 intro x l hl
 obtain ⟨_, _, rfl⟩ := List.mem_map.1 hl
 rfl
theorem ft_it_set (r : List Bool) (i : Nat) (v : Bool) : FT.it (r.set i v) = (FT.it r).set i (encT' v) := by simp [FT, List.map_set]
theorem ft_get {r : List Bool} {i : Nat} {v : Bool} (h : r[i]? = some v) : (FT.it r)[i]? = some (encT' v) := by simp [FT, h]
theorem ft_len (r : List Bool) : (FT.it r).length = r.length := by simp [FT]
theorem ft_emp (r : List Bool) {n : Nat} (h : r.length = n) (hn : 0 < n) : (FT.it r).isEmpty = false := by
 cases r with
 | nil => simp at h; omega
 | cons => rfl
theorem ft_own (k : Nat) (r : List Bool) {n : Nat} (h : r.length = n) (hn : 0 < n) : FT.ownV k r = .own k 1 n false := by
 unfold Fam.ownV
 rw [ft_len, h, ft_emp r h hn]; rfl
theorem ft_row (r : List Bool) {n : Nat} (h : r.length = n) (hn : 0 < n) : FT.row r = ⟨4, r.map V.b, false, 1⟩ := by
 unfold Fam.row
 rw [ft_emp r h hn]
 have : ((FT.it r).flatten.map V.d) = r.map V.b := by
  simp only [FT]
  clear h
  induction r with
  | nil => rfl
  | cons x r ih => simp only [List.map_cons, List.flatten_cons, List.map_append, ih]; rfl
 rw [this]; rfl
theorem hasL_b' (k : Nat) (l : List Bool) : V.hasL k (l.map V.b) = false := by
 rw [V.hasL_false]
 intro v hv
 obtain ⟨_, _, rfl⟩ := List.mem_map.1 hv
 rfl
theorem tel_rep {c : Cx} {s : S} {g : Nat → Nat × Nat} {a : Act} {w : World} {u v : V} {n : Nat} {T : List (List Bool)} {lits : List (Nat × Row)} {row : Row} {f : Bool} {xs : Array Operand} (hu : u.pure) (hv : v.pure) (hs : Sim c g s a w) (hx : xs.toList.map s.ev = ([u, v, .own 901 1 n f] : List V).map some) (hH : s.H = lits ++ FT.objs 1000 T) (hlow : lits.all (fun x => decide (x.1 < 1000)) = true)
  (hr : fnd lits 901 = some row) (hf : row.nil = f) (hc : row.cells = FT.cells 1000 T) (hn : T.length = n) (hl : n ≤ 60) (ha : ∀ x ∈ T, x.length = n) : VReps w (fun b => ¬ c.out b) g [u, v, .d (.sl 1 24 (T.map tabE))] (xs.toList.map a.eval) := by
 subst hn
 obtain ⟨h1, h2⟩ := args_eval hs hx
 refine ⟨by simpa using h1, fun j z x hz hx => ?_⟩
 match j, hz with
 | 0, hz =>
  simp only [List.getElem?_cons_zero, Option.some.injEq] at hz
  subst hz
  exact ((h2 0 _ x rfl hx).repure hu).mono Cells.rfl (fun b hb _ => hb.1) (fun r _ => rfl)
 | 1, hz =>
  simp only [List.getElem?_cons_succ, List.getElem?_cons_zero, Option.some.injEq] at hz
  subst hz
  exact ((h2 1 _ x rfl hx).repure hv).mono Cells.rfl (fun b hb _ => hb.1) (fun r _ => rfl)
 | 2, hz =>
  simp only [List.getElem?_cons_succ, List.getElem?_cons_zero, Option.some.injEq] at hz
  subst hz
  exact fam_rep (F := FT) (m := 0) (base := 1000) (btr := 24) hs hH hlow hr hf hc (fun _ => rfl) rfl zT15 ft_rows (fun x hx => by rw [ft_len, ha x hx]; show T.length * 1 ≤ _; omega) (h2 2 _ x rfl hx)
 | j + 3, hz => simp at hz
theorem am_tellApart (st : Int) (sts : List St) (h60 : sts.length ≤ 60) (hx4 : ∀ x ∈ sts, x.arcs.length ≤ 400) (hxt : ∀ x ∈ sts, ∀ a ∈ x.arcs, 0 ≤ a.t ∧ a.t < sts.length) : Fn Tryz.prog 22 [mV ⟨st, sts⟩] (fun v => ∃ T, v = .d (.sl 1 24 (T.map tabE)) ∧ tOk sts.length T ∧ ∀ q p, q < sts.length → p < sts.length → (tG T q p = false ↔ sim sts q p)) := by
 have htin : tin sts := fun x hx a ha => by have := hxt x hx a ha; omega
 have hend := fun (T0 T : List (List Bool)) (q p : Nat) => Psg.end (T0 := T0) (T := T) (q := q) (p := p) htin
 obtain ⟨n, hn⟩ : ∃ n, sts.length = n := ⟨_, rfl⟩
 rw [hn] at h60 hxt hend ⊢
 refine Fn.intro (n := 62) ⟨Tryz.func22, rfl, rfl, rfl, rfl⟩ zT8 zT16 fun w0 out => ?_
 apply AW.sr
 refine AL.sm rfl (sm_box 1 rfl rfl rfl rfl rfl) ?_
 refine AL.z ?_
 apply AL.nil
 try simp only [nd, setL, V.cs, nz, Nat.reduceAdd, nm, ns, enum]
 apply AW.sr
 iterate 4 refine AL.z ?_
 apply AL.nil
 try simp only [thenS, S.put, List.nil_append, List.cons_append]
 apply AW.sr
 refine AL.z ?_
 apply AL.nil
 try simp only [thenS, S.put, List.nil_append, List.cons_append]
 apply AW.seq
 apply AW.seq
 refine AW.adopt 4 901 1 51 rfl zT4 ?_
 apply AW.region
 refine AL.z ?_
 apply AL.nil
 try simp only [thenS, S.put, List.nil_append, List.cons_append]
 apply AW.block
 refine AW.loop (fun s' => ∃ (q : Nat) (L : List (List Bool)), q ≤ n ∧ L = List.replicate q (List.replicate n false) ∧ s' = ⟨62, [(1, .ref 1 0), (3, .i n), (4, .own 901 1 q (decide (q = 0))), (5, .i q)], [(1, ⟨24, [.i st, .d (stsD sts)], false, 0⟩), (901, ⟨51, FT.cells 1000 L, decide (q = 0), 1⟩)] ++ FT.objs 1000 L, []⟩) (fun s' => n - s'.nat 5) ⟨_, ?_, 0, [], by omega, rfl, rfl⟩ ?_
 ·exact Less.a1
 rintro s' ⟨q, L, hq, hL, rfl⟩
 have hLl : L.length = q := by rw [hL]; simp
 by_cases hlt : q < n
 ·have hn0 : 0 < n := by omega
  have hcl : (FT.cells 1000 L).length = q * 1 := by rw [Fam.cells_len (m := 0) (fun _ => rfl), hLl]
  apply AW.seq
  apply AW.sr
  iterate 3 refine AL.z ?_
  apply AL.nil
  try simp only [thenS, S.put, List.nil_append, List.cons_append]
  refine AW.condT rfl ?_
  apply AW.skip
  try simp only [thenS, List.nil_append, List.cons_append]
  apply AW.seq
  apply AW.block
  apply AW.region
  iterate 2 refine AL.z ?_
  refine AL.sm rfl (sm_make_map 19 V.b (false) Tryz.underlying51 inf4 rfl rfl rfl rfl rfl zT15 zT14 (by first | rfl | (simp only [S.clean, S.put, S.newObj, List.all_cons, objs_clean_low, Nat.reduceLT]; simp [S.forget, V.has, V.hasL, junkIf, setL, V.cs, hasL_i, hasL_b, hasL_s, hasL_n, hasL_rep, hasL_flat, hasL_append, cells_hasL_low, has_ownV, hasL_frep, nb1, nb2, nb3, nb4, -List.map_set]; try omega)) rfl) ?_
  refine AL.sm rfl (sm_slice (vs := [(0, _)]) (zs := [.d (.p (.slice none 0 0))]) 20 Tryz.underlying49 inf51 rfl rfl zT14 zT14 zT14 rfl rfl rfl rfl (by first | rfl | (simp only [S.clean, S.put, S.newObj, List.all_cons, objs_clean_low, Nat.reduceLT]; simp [S.forget, V.has, V.hasL, junkIf, setL, V.cs, hasL_i, hasL_b, hasL_s, hasL_n, hasL_rep, hasL_flat, hasL_append, cells_hasL_low, has_ownV, hasL_frep, nb1, nb2, nb3, nb4, -List.map_set]; try omega)) rfl rfl) ?_
  refine AL.st rfl (st_appendF Tryz.underlying49 inf51 rfl zT14 rfl rfl rfl rfl rfl rfl zT5 (by first | rfl | (simp only [S.clean, S.put, S.newObj, List.all_cons, objs_clean_low, Nat.reduceLT]; simp [S.forget, V.has, V.hasL, junkIf, setL, V.cs, hasL_i, hasL_b, hasL_s, hasL_n, hasL_rep, hasL_flat, hasL_append, cells_hasL_low, has_ownV, hasL_frep, nb1, nb2, nb3, nb4, -List.map_set]; try omega)) rfl rfl rfl rfl rfl rfl rfl zT14 zT15 zT15 rfl) ?_
  simp only [objs_filter_low, Fam.objs_forget, cells_hasL_low, has_ownV, nb3, nb4, Nat.reduceLT, S.forget, S.put, S.newObj, junkIf, V.has, V.hasL, nh, hasL_flat, hasL_append, List.map_cons, List.map_nil, List.filter_cons, List.filter_nil, Nat.reduceBNe, Nat.reduceBEq, eq_self, bne_self_eq_false,  Bool.not_true, Bool.not_false, Bool.or_false, Bool.or_true, Bool.false_or, Bool.true_or, if_true, if_false, Bool.false_eq_true, ite_true, ite_false, ↓reduceIte, beq_self_eq_true, Nat.reduceEqDiff]
  refine AL.z ?_
  apply AL.nil
  try simp only [nd, setL, V.cs, nz, Nat.reduceAdd, nm, ns]
  refine AW.less (s' := ⟨62, [(1, .ref 1 0), (3, .i n), (4, .own 901 1 (q + 1) false), (5, .i q)], [(1, ⟨24, [.i st, .d (stsD sts)], false, 0⟩), (19, ⟨4, (List.replicate n false).map V.b, false, 1⟩), (901, ⟨51, FT.cells 1000 L ++ [.own 19 1 n false], false, 1⟩)] ++ FT.objs 1000 L, []⟩) Less.a1 ?_
  have hRl : (List.replicate n false).length = n := by simp
  have hrow2 := ft_row (List.replicate n false) hRl hn0
  have hown : V.own 19 1 n false = .own 19 FT.sz (FT.it (List.replicate n false)).length (FT.it (List.replicate n false)).isEmpty := by rw [ft_len, hRl, ft_emp _ hRl hn0]; rfl
  refine AW.famPush (F := FT) [_, _, _] 901 19 (List.replicate n false) rfl rfl rfl (by rw [hrow2]; rfl) (by rw [hown]; rfl) zT14 rfl (by simp [V.hasL, V.has]) rfl rfl (by intro y hy hne r hr; simp only [List.mem_cons, List.not_mem_nil, or_false] at hy; rcases hy with rfl | rfl | rfl <;> first | exact absurd rfl hne | rfl | exact hasL_b' _ _) rfl rfl ?_
  apply AW.region
  iterate 3 refine AL.z ?_
  apply AL.nil
  try simp only [thenS, S.put, List.nil_append, List.cons_append]
  refine ⟨_, ?_, ⟨q + 1, L ++ [List.replicate n false], by omega, by rw [hL]; simp [List.replicate_succ'], rfl⟩, ?_⟩
  ·exact Less.a1
  simp [S.nat, fnd]; omega
 obtain rfl : q = n := by omega
 have hL0 : L = fT q := hL
 clear hL hLl
 apply AW.seq
 apply AW.sr
 iterate 3 refine AL.z ?_
 apply AL.nil
 try simp only [thenS, S.put, List.nil_append, List.cons_append]
 refine AW.condF rfl ?_
 refine AW.exit ?_
 try simp only [thenS, inBlockS, ↓reduceIte, Nat.reduceEqDiff, List.nil_append, List.cons_append]
 apply AW.seq
 apply AW.sr
 refine AL.z ?_
 apply AL.nil
 try simp only [thenS, S.put, List.nil_append, List.cons_append]
 apply AW.block
 refine AW.loopN (fun μ s' => ∃ (T : List (List Bool)) (ag : Bool), 2 * nF T + (if ag then 1 else 0) ≤ μ ∧ tOk q T ∧ (telI sts fun a b => tG T a b = true) ∧ (ag = false → Psg q sts T q 0 false T) ∧ s' = ⟨62, [(1, .ref 1 0), (3, .i q), (4, .own 901 1 q (decide (q = 0))), (6, .b ag)], [(1, ⟨24, [.i st, .d (stsD sts)], false, 0⟩), (901, ⟨51, FT.cells 1000 T, decide (q = 0), 1⟩)] ++ FT.objs 1000 T, []⟩) ⟨_, _, ?_, L, true, Nat.le_refl _, by rw [hL0]; exact fT_ok q, by rw [hL0]; exact fun a b h => absurd h (fT_no q a b), fun h => (by cases h), rfl⟩ ?_
 ·exact Less.a1
 clear hL0 hlt hq
 rintro μ s' ⟨T0, ag, hμ, hok, htel, hdone, rfl⟩
 cases ag with
 | false =>
  have hfin := hend T0 T0
  have hd := hdone rfl
  have hTl : T0.length = q := hok.1
  have hPa : ∀ x ∈ T0, (FT.it x).length * FT.bt ≤ 140737488355328 := fun x hx => by
   rw [ft_len, hok.2 x hx]
   show q * 1 ≤ _
   omega
  apply AW.seq
  apply AW.sr
  refine AL.z ?_
  apply AL.nil
  try simp only [thenS, S.put, List.nil_append, List.cons_append]
  refine AW.condF rfl ?_
  refine AW.exit ?_
  try simp only [thenS, inBlockS, ↓reduceIte, Nat.reduceEqDiff, List.nil_append, List.cons_append]
  apply AW.seq
  refine AW.famFreezeN (F := FT) (m := 0) (base := 1000) (L := T0) [_, _] 901 rfl rfl (by rw [hTl]) rfl (fun _ => rfl) ft_rows hPa rfl (by intro y hy hne; simp only [List.mem_cons, List.not_mem_nil, or_false] at hy; rcases hy with rfl | rfl <;> first | exact absurd rfl hne | (intro r hr; rfl)) rfl rfl ?_
  refine AW.freeze 4 24 (T0.map tabE) rfl rfl rfl (by rw [List.length_map, hTl]) zT15 (rowsF (enc := tabE) (sz := 1) (l := T0) (fun _ => rfl) rfl) ?_
  apply AW.region
  iterate 2 refine AL.z ?_
  apply AL.nil
  try simp only [thenS, S.put, List.nil_append, List.cons_append]
  apply AW.ret
  exact ⟨[_], ⟨rfl, trivial⟩, ⟨T0, rfl, hok, fun a b ha hb => hfin a b hd ha hb⟩, by simp [tupOf, V.pure, V.has]⟩
 | true =>
  clear hdone
  simp only [if_true] at hμ
  have hp0 := Psg.begin hok htel
  clear hok htel
  apply AW.seq
  apply AW.sr
  refine AL.z ?_
  apply AL.nil
  try simp only [thenS, S.put, List.nil_append, List.cons_append]
  refine AW.condT rfl ?_
  apply AW.skip
  try simp only [thenS, List.nil_append, List.cons_append]
  apply AW.block
  apply AW.sr
  refine AL.z ?_
  apply AL.nil
  try simp only [thenS, S.put, List.nil_append, List.cons_append]
  apply AW.sr
  refine AL.z ?_
  apply AL.nil
  try simp only [thenS, S.put, List.nil_append, List.cons_append]
  apply AW.block
  refine AW.loop (fun s' => ∃ (a : Nat) (ag : Bool) (T : List (List Bool)), a ≤ q ∧ Psg q sts T0 a 0 ag T ∧ s' = ⟨62, [(1, .ref 1 0), (3, .i q), (4, .own 901 1 q (decide (q = 0))), (6, .b ag), (7, .i a)], [(1, ⟨24, [.i st, .d (stsD sts)], false, 0⟩), (901, ⟨51, FT.cells 1000 T, decide (q = 0), 1⟩)] ++ FT.objs 1000 T, []⟩) (fun s' => q - s'.nat 7) ⟨_, ?_, 0, false, T0, by omega, hp0, rfl⟩ ?_
  ·exact Less.a1
  clear hp0
  rintro s' ⟨a, ag, T, ha, hP, rfl⟩
  by_cases hlta : a < q
  ·have hnf : decide (q = 0) = false := by simp; omega
   rw [hnf]
   obtain ⟨x, hx⟩ := get_lt hn hlta
   apply AW.seq
   apply AW.sr
   iterate 3 refine AL.z ?_
   apply AL.nil
   try simp only [thenS, S.put, List.nil_append, List.cons_append]
   refine AW.condT rfl ?_
   apply AW.skip
   try simp only [thenS, List.nil_append, List.cons_append]
   apply AW.seq
   apply AW.block
   apply AW.sr
   refine AL.z ?_
   apply AL.nil
   try simp only [thenS, S.put, List.nil_append, List.cons_append]
   apply AW.block
   refine AW.loop (fun s' => ∃ (b : Nat) (ag : Bool) (T : List (List Bool)), b ≤ q ∧ Psg q sts T0 a b ag T ∧ s' = ⟨62, [(1, .ref 1 0), (3, .i q), (4, .own 901 1 q false), (6, .b ag), (7, .i a), (8, .i b)], [(1, ⟨24, [.i st, .d (stsD sts)], false, 0⟩), (901, ⟨51, FT.cells 1000 T, false, 1⟩)] ++ FT.objs 1000 T, []⟩) (fun s' => q - s'.nat 8) ⟨_, ?_, 0, ag, T, by omega, hP, rfl⟩ ?_
   ·exact Less.a1
   clear hP
   rintro s' ⟨b, ag, T, hb, hP, rfl⟩
   by_cases hltb : b < q
   ·obtain ⟨y, hy⟩ := get_lt hn hltb
    have hTl := hP.ok.1
    have hTr := hP.ok.2
    obtain ⟨r, hr, hrl, hrg⟩ := hP.ok.row hlta
    have hg := hrg b hltb
    clear hrg
    have f1 := ft_get hg
    have o1 := ft_own (1000 + a) r hrl zT15
    have i1 : a < T.length := by omega
    cases hgv : tG T a b with
    | true =>
     have hs := hP.skip hx hy (.inl hgv)
     rw [hgv] at f1 hg
     clear hP
     apply AW.seq
     apply AW.sr
     iterate 3 refine AL.z ?_
     apply AL.nil
     try simp only [thenS, S.put, List.nil_append, List.cons_append]
     refine AW.condT rfl ?_
     apply AW.skip
     try simp only [thenS, List.nil_append, List.cons_append]
     apply AW.seq
     apply AW.block
     apply AW.seq
     refine AW.draw [(0, true), (1, true), (2, true), (3, true), (4, true), (5, true), (6, true), (7, true), (8, true), (9, true), (10, true), (11, true), (12, true), (13, true), (14, true), (15, true), (16, true), (17, true), (18, true), (19, true), (20, false), (21, false)] (fun i => !([] : List Nat).contains i) 22 zT12 zT12 rfl zT12 ?_
     iterate 3 refine AD1.z ?_
     refine AD1.rd rfl rfl rfl (fun _ _ h => h) (rd_load_famE (m := 0) Tryz.underlying51 rfl rfl rfl rfl rfl rfl (fun _ => rfl) rfl zT13 zT13) ?_
     iterate 2 refine AD1.z ?_
     refine AD1.rd rfl rfl rfl (fun _ _ h => h) (rd_load_fit (F := FT) (lits := [_, _]) (i := b) (j := 0) Tryz.underlying4 rfl rfl rfl rfl rfl zT13 rfl zT13 (ft_rows) rfl) ?_
     iterate 2 refine AD1.z ?_
     refine AD1.noV rfl rfl rfl rfl rfl (fun _ _ h => h) ?_
     refine AD1.noV rfl rfl rfl rfl rfl (fun _ _ h => h) ?_
     refine AD1.noV rfl rfl rfl rfl rfl (fun _ _ h => h) ?_
     refine AD1.noV rfl rfl rfl rfl rfl (fun _ _ h => h) ?_
     refine AD1.noV rfl rfl rfl rfl rfl (fun _ _ h => h) ?_
     refine AD1.noV rfl rfl rfl rfl rfl (fun _ _ h => h) ?_
     refine AD1.noV rfl rfl rfl rfl rfl (fun _ _ h => h) ?_
     refine AD1.noV rfl rfl rfl rfl rfl (fun _ _ h => h) ?_
     refine AD1.noV rfl rfl rfl rfl rfl (fun _ _ h => h) ?_
     refine AD1.noV rfl rfl rfl rfl rfl (fun _ _ h => h) ?_
     refine AD1.noV rfl rfl rfl rfl rfl (fun _ _ h => h) ?_
     refine AD1.go ?_
     refine AD2.noV1 rfl rfl rfl rfl rfl ?_
     refine AD2.rp1 rfl rfl rfl (rp_pick rfl rfl rfl) ?_
     refine AD2.nil ?_
     try simp only [thenS, S.put, List.nil_append, List.cons_append]
     refine AW.condF rfl ?_
     apply AW.skip
     try simp only [thenS, List.nil_append, List.cons_append]
     apply AW.region
     iterate 3 refine AL.z ?_
     apply AL.nil
     try simp only [thenS, S.put, List.nil_append, List.cons_append]
     refine ⟨_, ?_, ⟨b + 1, ag, T, by omega, hs, rfl⟩, ?_⟩
     ·exact Less.a1
     simp [S.nat, fnd]; omega
    | false =>
     have hcall := am_apart q T hP.ok x y (hx4 x (List.mem_of_getElem? hx)) (hxt x (List.mem_of_getElem? hx)) (hxt y (List.mem_of_getElem? hy))
     obtain ⟨xf, xa⟩ := x
     obtain ⟨yf, ya⟩ := y
     cases hap : apB T ⟨xf, xa⟩ ⟨yf, ya⟩ with
     | true =>
      have hs := hP.put hlta hltb hx hy hgv hap
      have hset : tP T a b = T.set a (r.set b true) := by unfold tP; rw [hr]; rfl
      rw [hset] at hs
      rw [hap] at hcall
      rw [hgv] at f1 hg
      clear hP hset
      apply AW.seq
      apply AW.sr
      iterate 3 refine AL.z ?_
      apply AL.nil
      try simp only [thenS, S.put, List.nil_append, List.cons_append]
      refine AW.condT rfl ?_
      apply AW.skip
      try simp only [thenS, List.nil_append, List.cons_append]
      apply AW.seq
      apply AW.block
      apply AW.seq
      refine AW.draw [(0, true), (1, true), (2, true), (3, true), (4, true), (5, true), (6, true), (7, true), (8, true), (9, true), (10, true), (11, true), (12, true), (13, true), (14, true), (15, true), (16, true), (17, true), (18, true), (19, true), (20, false), (21, false)] (fun i => !([] : List Nat).contains i) 22 zT12 zT12 rfl zT12 ?_
      iterate 3 refine AD1.z ?_
      refine AD1.rd rfl rfl rfl (fun _ _ h => h) (rd_load_famE (m := 0) Tryz.underlying51 rfl rfl rfl rfl rfl rfl (fun _ => rfl) rfl zT13 zT13) ?_
      iterate 2 refine AD1.z ?_
      refine AD1.rd rfl rfl rfl (fun _ _ h => h) (rd_load_fit (F := FT) (lits := [_, _]) (i := b) (j := 0) Tryz.underlying4 rfl rfl rfl rfl rfl zT13 rfl zT13 (ft_rows) rfl) ?_
      iterate 2 refine AD1.z ?_
      iterate 11 refine AD1.zy ?_
      refine AD1.go ?_
      (refine AD2.cally (post := ?pc0) rfl rfl rfl (sm_callR (args := ?ac0) ?hc0 ?qc0 ⟨Tryz.func50, rfl, rfl, rfl, rfl⟩ rfl rfl ?rc0 rfl) ?_; (case hc0 => (exact hcall)); (case qc0 => ((intro v hv; subst hv; first | trivial | (simp [V.plain]; done)))); (case rc0 => (exact fun g a w hs => tel_rep (lits := [_, _]) zT8 zT8 hs rfl rfl rfl rfl rfl rfl hTl h60 hTr)); rintro _ rfl -; try dsimp only)
      refine AD2.rp1 rfl rfl rfl (rp_pick rfl rfl rfl) ?_
      refine AD2.nil ?_
      try simp only [nd, setL, V.cs, nz, Nat.reduceAdd, nm, ns]
      refine AW.condT rfl ?_
      apply AW.sr
      iterate 3 refine AL.z ?_
      refine AL.rd rfl rfl (rd_load_famE (m := 0) Tryz.underlying51 rfl rfl rfl rfl rfl rfl (fun _ => rfl) rfl zT13 zT13) ?_
      iterate 2 refine AL.z ?_
      refine AL.st rfl (st_store_fit (F := FT) (lits := [_, _]) (x0 := r) (rb := 901) (i := b) (j := 0) (r.set b true) inf4 rfl rfl rfl rfl rfl rfl rfl rfl zT13 rfl zT13 zT14 (ft_rows) rfl rfl (by rw [ft_it_set]; rfl)) ?_
      try simp only [S.put, S.newObj, List.map_cons, List.map_nil, junkHi, V.low, V.lowL, low_ownV, Nat.reduceLT, decide_true, decide_false, Bool.and_true, Bool.true_and, if_true, if_false, Bool.false_eq_true, ite_true, ite_false, ↓reduceIte, List.cons_append, List.nil_append]
      apply AL.nil
      try simp only [nd, setL, V.cs, nz, Nat.reduceAdd, nm, ns]
      apply AW.region
      refine AL.z ?_
      apply AL.nil
      try simp only [thenS, S.put, List.nil_append, List.cons_append]
      apply AW.region
      iterate 3 refine AL.z ?_
      apply AL.nil
      try simp only [thenS, S.put, List.nil_append, List.cons_append]
      refine ⟨_, ?_, ⟨b + 1, true, _, by omega, hs, rfl⟩, ?_⟩
      ·exact Less.a1
      simp [S.nat, fnd]; omega
     | false =>
      have hs := hP.skip hx hy (.inr hap)
      rw [hap] at hcall
      rw [hgv] at f1 hg
      clear hP
      apply AW.seq
      apply AW.sr
      iterate 3 refine AL.z ?_
      apply AL.nil
      try simp only [thenS, S.put, List.nil_append, List.cons_append]
      refine AW.condT rfl ?_
      apply AW.skip
      try simp only [thenS, List.nil_append, List.cons_append]
      apply AW.seq
      apply AW.block
      apply AW.seq
      refine AW.draw [(0, true), (1, true), (2, true), (3, true), (4, true), (5, true), (6, true), (7, true), (8, true), (9, true), (10, true), (11, true), (12, true), (13, true), (14, true), (15, true), (16, true), (17, true), (18, true), (19, true), (20, false), (21, false)] (fun i => !([] : List Nat).contains i) 22 zT12 zT12 rfl zT12 ?_
      iterate 3 refine AD1.z ?_
      refine AD1.rd rfl rfl rfl (fun _ _ h => h) (rd_load_famE (m := 0) Tryz.underlying51 rfl rfl rfl rfl rfl rfl (fun _ => rfl) rfl zT13 zT13) ?_
      iterate 2 refine AD1.z ?_
      refine AD1.rd rfl rfl rfl (fun _ _ h => h) (rd_load_fit (F := FT) (lits := [_, _]) (i := b) (j := 0) Tryz.underlying4 rfl rfl rfl rfl rfl zT13 rfl zT13 (ft_rows) rfl) ?_
      iterate 2 refine AD1.z ?_
      iterate 11 refine AD1.zy ?_
      refine AD1.go ?_
      (refine AD2.cally (post := ?pc1) rfl rfl rfl (sm_callR (args := ?ac1) ?hc1 ?qc1 ⟨Tryz.func50, rfl, rfl, rfl, rfl⟩ rfl rfl ?rc1 rfl) ?_; (case hc1 => (exact hcall)); (case qc1 => ((intro v hv; subst hv; first | trivial | (simp [V.plain]; done)))); (case rc1 => (exact fun g a w hs => tel_rep (lits := [_, _]) zT8 zT8 hs rfl rfl rfl rfl rfl rfl hTl h60 hTr)); rintro _ rfl -; try dsimp only)
      refine AD2.rp1 rfl rfl rfl (rp_pick rfl rfl rfl) ?_
      refine AD2.nil ?_
      try simp only [nd, setL, V.cs, nz, Nat.reduceAdd, nm, ns]
      refine AW.condF rfl ?_
      apply AW.skip
      try simp only [thenS, List.nil_append, List.cons_append]
      apply AW.region
      iterate 3 refine AL.z ?_
      apply AL.nil
      try simp only [thenS, S.put, List.nil_append, List.cons_append]
      refine ⟨_, ?_, ⟨b + 1, ag, T, by omega, hs, rfl⟩, ?_⟩
      ·exact Less.a1
      simp [S.nat, fnd]; omega
   obtain rfl : b = q := by omega
   apply AW.seq
   apply AW.sr
   iterate 3 refine AL.z ?_
   apply AL.nil
   try simp only [thenS, S.put, List.nil_append, List.cons_append]
   refine AW.condF rfl ?_
   refine AW.exit ?_
   try simp only [thenS, inBlockS, ↓reduceIte, Nat.reduceEqDiff, List.nil_append, List.cons_append]
   apply AW.region
   iterate 3 refine AL.z ?_
   apply AL.nil
   try simp only [thenS, S.put, List.nil_append, List.cons_append]
   refine ⟨_, ?_, ⟨a + 1, ag, T, by omega, hP.row, rfl⟩, ?_⟩
   ·exact Less.a1
   simp [S.nat, fnd]; omega
  obtain rfl : a = q := by omega
  have hle := hP.le
  have hlt := hP.lt
  have hold := hP.old
  apply AW.seq
  apply AW.sr
  iterate 3 refine AL.z ?_
  apply AL.nil
  try simp only [thenS, S.put, List.nil_append, List.cons_append]
  refine AW.condF rfl ?_
  refine AW.exit ?_
  try simp only [thenS, inBlockS, ↓reduceIte, Nat.reduceEqDiff, List.nil_append, List.cons_append]
  refine ⟨μ - 1, _, ?_, ⟨T, ag, ?_, hP.ok, hP.tel, fun h => ?_, rfl⟩, ?_⟩
  ·exact Less.a1
  ·cases ag with
   | false => simp; omega
   | true => have := hlt rfl; simp; omega
  ·have e := hold h
   subst e
   rw [h] at hP
   exact hP
  omega
theorem am_IsEmpty (y : Ar) (b : Bool) (hb : fF y = b) : Fn Tryz.prog 43 [.agg ((arD y).map V.d)] (fun v => v = .b (!b)) := by
 subst hb
 obtain ⟨yi, yo, yw, yt⟩ := y
 refine Fn.intro (n := 11) ⟨Tryz.func43, rfl, rfl, rfl, rfl⟩ zT8 zT16 fun w0 out => ?_
 by_cases h1 : yi = 0
 ·by_cases h2 : yo = 0
  ·skip
   apply AW.sr
   refine AL.sm rfl (sm_box 1 rfl rfl rfl rfl rfl) ?_
   refine AL.z ?_
   apply AL.nil
   try simp only [nd, setL, V.cs, nz, Nat.reduceAdd, nm, ns, enum]
   apply AW.sr
   iterate 4 refine AL.z ?_
   iterate 3 refine AL.zy ?_
   iterate 2 refine AL.z ?_
   apply AL.nil
   try simp only [nd]
   apply AW.ret
   exact ⟨[_], ⟨rfl, trivial⟩, by simp [tupOf, fF, h1, h2], by simp [tupOf, V.pure, V.has]⟩
  skip
  apply AW.sr
  refine AL.sm rfl (sm_box 1 rfl rfl rfl rfl rfl) ?_
  refine AL.z ?_
  apply AL.nil
  try simp only [nd, setL, V.cs, nz, Nat.reduceAdd, nm, ns, enum]
  apply AW.sr
  iterate 4 refine AL.z ?_
  iterate 3 refine AL.zy ?_
  iterate 2 refine AL.z ?_
  apply AL.nil
  try simp only [nd]
  apply AW.ret
  exact ⟨[_], ⟨rfl, trivial⟩, by simp [tupOf, fF, h1, h2], by simp [tupOf, V.pure, V.has]⟩
 skip
 apply AW.sr
 refine AL.sm rfl (sm_box 1 rfl rfl rfl rfl rfl) ?_
 refine AL.z ?_
 apply AL.nil
 try simp only [nd, setL, V.cs, nz, Nat.reduceAdd, nm, ns, enum]
 apply AW.sr
 iterate 4 refine AL.z ?_
 refine AL.noV rfl rfl rfl rfl ?_
 refine AL.noV rfl rfl rfl rfl ?_
 refine AL.noV rfl rfl rfl rfl ?_
 iterate 2 refine AL.z ?_
 apply AL.nil
 try simp only [nd]
 apply AW.ret
 exact ⟨[_], ⟨rfl, trivial⟩, by simp [tupOf, fF, h1], by simp [tupOf, V.pure, V.has]⟩
theorem am_AheadR (a b : Ar) (x : Bool) (hx : ahd a b = x) : Fn Tryz.prog 44 [.agg ((arD a).map V.d), .agg ((arD b).map V.d)] (fun v => v = .b x) := by
 subst hx
 obtain ⟨ai, ao, aw, at'⟩ := a
 obtain ⟨bi, bo, bw, bt⟩ := b
 refine Fn.intro (n := 40) ⟨Tryz.func44, rfl, rfl, rfl, rfl⟩ zT8 zT16 fun w0 out => ?_
 by_cases h1 : ai = bi
 ·by_cases h2 : ao = bo
  ·by_cases h3 : at' = bt
   ·by_cases h4 : aw < bw
    ·skip
     apply AW.sr
     refine AL.sm rfl (sm_box 2 rfl rfl rfl rfl rfl) ?_
     refine AL.sm rfl (sm_box 3 rfl rfl rfl rfl rfl) ?_
     refine AL.z ?_
     apply AL.nil
     try simp only [nd, setL, V.cs, nz, Nat.reduceAdd, nm, ns, enum]
     apply AW.seq
     apply AW.sr
     iterate 5 refine AL.z ?_
     apply AL.nil
     try simp only [nd]
     refine AW.condF rfl ?_
     apply AW.skip
     try simp only [thenS]
     apply AW.seq
     apply AW.sr
     iterate 5 refine AL.z ?_
     apply AL.nil
     try simp only [nd]
     refine AW.condF rfl ?_
     apply AW.skip
     try simp only [thenS]
     apply AW.seq
     apply AW.sr
     iterate 5 refine AL.z ?_
     apply AL.nil
     try simp only [nd]
     refine AW.condF rfl ?_
     apply AW.skip
     try simp only [thenS]
     apply AW.sr
     iterate 6 refine AL.z ?_
     apply AL.nil
     try simp only [nd]
     apply AW.ret
     exact ⟨[_], ⟨rfl, trivial⟩, by simp [tupOf, ahd, h1, h2, h3, h4], by simp [tupOf, V.pure, V.has]⟩
    skip
    apply AW.sr
    refine AL.sm rfl (sm_box 2 rfl rfl rfl rfl rfl) ?_
    refine AL.sm rfl (sm_box 3 rfl rfl rfl rfl rfl) ?_
    refine AL.z ?_
    apply AL.nil
    try simp only [nd, setL, V.cs, nz, Nat.reduceAdd, nm, ns, enum]
    apply AW.seq
    apply AW.sr
    iterate 5 refine AL.z ?_
    apply AL.nil
    try simp only [nd]
    refine AW.condF rfl ?_
    apply AW.skip
    try simp only [thenS]
    apply AW.seq
    apply AW.sr
    iterate 5 refine AL.z ?_
    apply AL.nil
    try simp only [nd]
    refine AW.condF rfl ?_
    apply AW.skip
    try simp only [thenS]
    apply AW.seq
    apply AW.sr
    iterate 5 refine AL.z ?_
    apply AL.nil
    try simp only [nd]
    refine AW.condF rfl ?_
    apply AW.skip
    try simp only [thenS]
    apply AW.sr
    iterate 6 refine AL.z ?_
    apply AL.nil
    try simp only [nd]
    apply AW.ret
    exact ⟨[_], ⟨rfl, trivial⟩, by simp [tupOf, ahd, h1, h2, h3, h4], by simp [tupOf, V.pure, V.has]⟩
   by_cases h4 : at' < bt
   ·skip
    apply AW.sr
    refine AL.sm rfl (sm_box 2 rfl rfl rfl rfl rfl) ?_
    refine AL.sm rfl (sm_box 3 rfl rfl rfl rfl rfl) ?_
    refine AL.z ?_
    apply AL.nil
    try simp only [nd, setL, V.cs, nz, Nat.reduceAdd, nm, ns, enum]
    apply AW.seq
    apply AW.sr
    iterate 5 refine AL.z ?_
    apply AL.nil
    try simp only [nd]
    refine AW.condF rfl ?_
    apply AW.skip
    try simp only [thenS]
    apply AW.seq
    apply AW.sr
    iterate 5 refine AL.z ?_
    apply AL.nil
    try simp only [nd]
    refine AW.condF rfl ?_
    apply AW.skip
    try simp only [thenS]
    apply AW.seq
    apply AW.sr
    iterate 5 refine AL.z ?_
    apply AL.nil
    try simp only [nd]
    refine AW.condT rfl ?_
    apply AW.sr
    iterate 6 refine AL.z ?_
    apply AL.nil
    try simp only [nd]
    apply AW.ret
    exact ⟨[_], ⟨rfl, trivial⟩, by simp [tupOf, ahd, h1, h2, h3, h4], by simp [tupOf, V.pure, V.has]⟩
   skip
   apply AW.sr
   refine AL.sm rfl (sm_box 2 rfl rfl rfl rfl rfl) ?_
   refine AL.sm rfl (sm_box 3 rfl rfl rfl rfl rfl) ?_
   refine AL.z ?_
   apply AL.nil
   try simp only [nd, setL, V.cs, nz, Nat.reduceAdd, nm, ns, enum]
   apply AW.seq
   apply AW.sr
   iterate 5 refine AL.z ?_
   apply AL.nil
   try simp only [nd]
   refine AW.condF rfl ?_
   apply AW.skip
   try simp only [thenS]
   apply AW.seq
   apply AW.sr
   iterate 5 refine AL.z ?_
   apply AL.nil
   try simp only [nd]
   refine AW.condF rfl ?_
   apply AW.skip
   try simp only [thenS]
   apply AW.seq
   apply AW.sr
   iterate 5 refine AL.z ?_
   apply AL.nil
   try simp only [nd]
   refine AW.condT rfl ?_
   apply AW.sr
   iterate 6 refine AL.z ?_
   apply AL.nil
   try simp only [nd]
   apply AW.ret
   exact ⟨[_], ⟨rfl, trivial⟩, by simp [tupOf, ahd, h1, h2, h3, h4], by simp [tupOf, V.pure, V.has]⟩
  by_cases h4 : ao < bo
  ·skip
   apply AW.sr
   refine AL.sm rfl (sm_box 2 rfl rfl rfl rfl rfl) ?_
   refine AL.sm rfl (sm_box 3 rfl rfl rfl rfl rfl) ?_
   refine AL.z ?_
   apply AL.nil
   try simp only [nd, setL, V.cs, nz, Nat.reduceAdd, nm, ns, enum]
   apply AW.seq
   apply AW.sr
   iterate 5 refine AL.z ?_
   apply AL.nil
   try simp only [nd]
   refine AW.condF rfl ?_
   apply AW.skip
   try simp only [thenS]
   apply AW.seq
   apply AW.sr
   iterate 5 refine AL.z ?_
   apply AL.nil
   try simp only [nd]
   refine AW.condT rfl ?_
   apply AW.sr
   iterate 6 refine AL.z ?_
   apply AL.nil
   try simp only [nd]
   apply AW.ret
   exact ⟨[_], ⟨rfl, trivial⟩, by simp [tupOf, ahd, h1, h2, h4], by simp [tupOf, V.pure, V.has]⟩
  skip
  apply AW.sr
  refine AL.sm rfl (sm_box 2 rfl rfl rfl rfl rfl) ?_
  refine AL.sm rfl (sm_box 3 rfl rfl rfl rfl rfl) ?_
  refine AL.z ?_
  apply AL.nil
  try simp only [nd, setL, V.cs, nz, Nat.reduceAdd, nm, ns, enum]
  apply AW.seq
  apply AW.sr
  iterate 5 refine AL.z ?_
  apply AL.nil
  try simp only [nd]
  refine AW.condF rfl ?_
  apply AW.skip
  try simp only [thenS]
  apply AW.seq
  apply AW.sr
  iterate 5 refine AL.z ?_
  apply AL.nil
  try simp only [nd]
  refine AW.condT rfl ?_
  apply AW.sr
  iterate 6 refine AL.z ?_
  apply AL.nil
  try simp only [nd]
  apply AW.ret
  exact ⟨[_], ⟨rfl, trivial⟩, by simp [tupOf, ahd, h1, h2, h4], by simp [tupOf, V.pure, V.has]⟩
 by_cases h4 : ai < bi
 ·skip
  apply AW.sr
  refine AL.sm rfl (sm_box 2 rfl rfl rfl rfl rfl) ?_
  refine AL.sm rfl (sm_box 3 rfl rfl rfl rfl rfl) ?_
  refine AL.z ?_
  apply AL.nil
  try simp only [nd, setL, V.cs, nz, Nat.reduceAdd, nm, ns, enum]
  apply AW.seq
  apply AW.sr
  iterate 5 refine AL.z ?_
  apply AL.nil
  try simp only [nd]
  refine AW.condT rfl ?_
  apply AW.sr
  iterate 6 refine AL.z ?_
  apply AL.nil
  try simp only [nd]
  apply AW.ret
  exact ⟨[_], ⟨rfl, trivial⟩, by simp [tupOf, ahd, h1, h4], by simp [tupOf, V.pure, V.has]⟩
 skip
 apply AW.sr
 refine AL.sm rfl (sm_box 2 rfl rfl rfl rfl rfl) ?_
 refine AL.sm rfl (sm_box 3 rfl rfl rfl rfl rfl) ?_
 refine AL.z ?_
 apply AL.nil
 try simp only [nd, setL, V.cs, nz, Nat.reduceAdd, nm, ns, enum]
 apply AW.seq
 apply AW.sr
 iterate 5 refine AL.z ?_
 apply AL.nil
 try simp only [nd]
 refine AW.condT rfl ?_
 apply AW.sr
 iterate 6 refine AL.z ?_
 apply AL.nil
 try simp only [nd]
 apply AW.ret
 exact ⟨[_], ⟨rfl, trivial⟩, by simp [tupOf, ahd, h1, h4], by simp [tupOf, V.pure, V.has]⟩
theorem dis_step {l : List Ar} {i : Nat} {y : Ar} (h : l[i]? = some y) : disN l (i + 1) = (disN l i && (l.take i).all fun b => !(decide (y.i = b.i) && decide (y.o = b.o))) := by simp only [disN, arAt_of h]
theorem srt_step {l : List Ar} {i : Nat} {y : Ar} (h : l[i]? = some y) : srtN l (i + 1) = (srtN l i && (l.take i).all fun b => !ahd y b) := by simp only [srtN, arAt_of h]
theorem band4 (a b c d e : Bool) : ((((a && b) && c) && d) && e) = ((a && (b && e)) && (c && d)) := by cases a <;> cases b <;> cases c <;> cases d <;> cases e <;> rfl
theorem am_Like (m : Mach) : Fn Tryz.prog 19 [mV m] (fun v => v = .tup [prV m, .i (machE m)]) := by
 by_cases h0 : machE m = 0
 ·obtain ⟨h60, h400, hst, hz⟩ := machE_zero h0
  rw [prV_ok h0, h0]
  obtain ⟨st, sts⟩ := m
  simp only at h60 h400 hst hz ⊢
  have hal4 : ∀ x ∈ sts, x.arcs.length ≤ 400 := fun x hx => Nat.le_trans (arcN_mem sts x hx) h400
  have hw0 : ∀ x ∈ sts, ∀ y ∈ x.arcs, 0 ≤ y.w := fun x hx y hy => by
   have := (hz x hx).2 y hy
   simp only [arOk, decide_eq_true_eq] at this
   omega
  obtain ⟨n, hn⟩ : ∃ n, sts.length = n := ⟨_, rfl⟩
  rw [hn] at h60
  clear h400 hst hz
  refine Fn.intro (n := 94) ⟨Tryz.func19, rfl, rfl, rfl, rfl⟩ zT8 zT16 fun w0 out => ?_
  apply AW.sr
  refine AL.sm rfl (sm_box 1 rfl rfl rfl rfl rfl) ?_
  refine AL.sm rfl (sm_alloc (l := [.d (.p (.bool false)), .d (.p (.bool false)), .d (.p (.bool false)), .d (.p (.bool false)), .d (.p (.bool false))]) 2 inf37 rfl rfl rfl rfl) ?_
  refine AL.z ?_
  apply AL.nil
  try simp only [nd, setL, V.cs, nz, Nat.reduceAdd, nm, ns, enum]
  apply AW.sr
  refine AL.z ?_
  refine AL.call (post := ?pc19) rfl (sm_call (args := [_]) ?hc19 ⟨Tryz.func30, rfl, rfl, rfl, rfl⟩ rfl rfl rfl rfl) ?_
  case hc19 => exact Fn.eqi (am_Fault ⟨st, sts⟩) h0
  rintro _ rfl -
  try dsimp only
  refine AL.z ?_
  apply AL.nil
  try simp only [nd, setL, V.cs, nz, Nat.reduceAdd, nm, ns]
  apply AW.seq
  apply AW.sr
  iterate 2 refine AL.z ?_
  apply AL.nil
  try simp only [nd]
  refine AW.condF rfl ?_
  apply AW.skip
  try simp only [thenS]
  apply AW.sr
  refine AL.rp rfl rfl (rp_build (vs := [(0, _), (1, _), (2, _), (3, _), (4, _)]) (zs := [.d (.p (.bool false)), .d (.p (.bool false)), .d (.p (.bool false)), .d (.p (.bool false)), .d (.p (.bool false))]) pl37 inf37 rfl rfl rfl rfl) ?_
  refine AL.sm rfl (sm_alloc (l := [.d (.p (.bool false)), .d (.p (.bool false)), .d (.p (.bool false)), .d (.p (.bool false)), .d (.p (.bool false))]) 5 inf37 rfl rfl rfl rfl) ?_
  refine AL.y ?_
  apply AL.nil
  try simp only [nd, setL, V.cs, nz, Nat.reduceAdd, nm, ns]
  apply AW.seq
  apply AW.sr
  refine AL.z ?_
  apply AL.nil
  try simp only [nd]
  apply AW.block
  refine AW.loop (fun s' => ∃ (q : Nat) (u1 u2 u3 d3 u4 u5 : Bool), q ≤ n ∧ u1 = ((sts.take q).all fun s => s.arcs.all fA) ∧ u2 = ((sts.take q).all fun s => s.arcs.all fF) ∧ d3 = ((sts.take q).all fun s => disN s.arcs s.arcs.length) ∧ u3 = (d3 && u2) ∧ u4 = ((sts.take q).all fun s => srtN s.arcs s.arcs.length) ∧ u5 = ((sts.take q).all fun s => fP s.fin && s.arcs.all fW) ∧ s' = ⟨94, [(1, .ref 1 0), (2, .ref 2 0), (5, .ref 5 0), (6, .i q)], [(1, ⟨24, [.i st, .d (stsD sts)], false, 0⟩), (2, ⟨37, [.b false, .b false, .b false, .b false, .b false], false, 0⟩), (5, ⟨37, [.b u1, .b u2, .b u3, .b u4, .b u5], false, 0⟩)], []⟩) (fun s' => n - s'.nat 6) ⟨_, ?_, 0, true, true, true, true, true, true, by omega, rfl, rfl, rfl, rfl, rfl, rfl, rfl⟩ ?_
  ·exact Less.a0
  rintro s' ⟨q, u1, u2, u3, d3, u4, u5, hq, h1, h2, h3, h6, h4, h5, rfl⟩
  by_cases hlt : q < n
  ·obtain ⟨x, hx⟩ := get_lt hn hlt
   have hla4 := hal4 x (List.mem_of_getElem? hx)
   have hw1 := hw0 x (List.mem_of_getElem? hx)
   have e1 := all_snoc (fun s : St => s.arcs.all fA) hx
   have e2 := all_snoc (fun s : St => s.arcs.all fF) hx
   have e3 := all_snoc (fun s : St => disN s.arcs s.arcs.length) hx
   have e4 := all_snoc (fun s : St => srtN s.arcs s.arcs.length) hx
   have e5 := all_snoc (fun s : St => fP s.fin && s.arcs.all fW) hx
   rw [← h1] at e1
   rw [← h2] at e2
   rw [← h3] at e3
   rw [← h4] at e4
   rw [← h5] at e5
   clear h1 h2 h3 h4 h5
   obtain ⟨xf, xa⟩ := x
   simp only at hla4 e1 e2 e3 e4 e5 hw1
   obtain ⟨la, hla⟩ : ∃ n, xa.length = n := ⟨_, rfl⟩
   rw [hla] at hla4 e3 e4
   obtain ⟨v5, hv5⟩ : ∃ v, v = (u5 && fP xf) := ⟨_, rfl⟩
   rw [← Bool.and_assoc, ← hv5] at e5
   apply AW.seq
   apply AW.sr
   iterate 5 refine AL.z ?_
   apply AL.nil
   try simp only [nd]
   refine AW.condT rfl ?_
   apply AW.skip
   try simp only [thenS]
   apply AW.seq
   apply AW.block
   apply AW.sr
   iterate 5 refine AL.z ?_
   refine AL.sm rfl (sm_alloc (l := [.d (.p (.int .i64 0)), .d (.p (.slice none 0 0))]) 7 inf35 rfl rfl rfl rfl) ?_
   refine AL.y ?_
   apply AL.nil
   try simp only [nd, setL, V.cs, nz, Nat.reduceAdd, nm, ns]
   refine AW.seqc (fun s' => s' = ⟨94, [(1, .ref 1 0), (2, .ref 2 0), (5, .ref 5 0), (6, .i q), (7, .ref 7 0)], [(1, ⟨24, [.i st, .d (stsD sts)], false, 0⟩), (2, ⟨37, [.b false, .b false, .b false, .b false, .b false], false, 0⟩), (5, ⟨37, [.b u1, .b u2, .b u3, .b u4, .b v5], false, 0⟩), (7, ⟨35, [.i xf, .d (arsD xa)], false, 0⟩)], []⟩) ?_ ?_
   ·skip
    by_cases f0 : xf = 0
    ·obtain rfl : v5 = u5 := by rw [hv5]; simp [fP, f0]
     apply AW.sr
     iterate 4 refine AL.z ?_
     refine AL.noV rfl rfl rfl rfl ?_
     refine AL.noV rfl rfl rfl rfl ?_
     refine AL.noV rfl rfl rfl rfl ?_
     refine AL.z ?_
     apply AL.nil
     try simp only [nd]
     refine AW.condF rfl ?_
     apply AW.skip
     try simp only [thenS]
     refine ⟨_, ?_, rfl⟩
     exact Less.a0
    by_cases f1 : xf = 1000000001
    ·obtain rfl : v5 = u5 := by rw [hv5]; simp [fP, f1]
     apply AW.sr
     iterate 4 refine AL.z ?_
     iterate 3 refine AL.zy ?_
     refine AL.z ?_
     apply AL.nil
     try simp only [nd]
     refine AW.condF rfl ?_
     apply AW.skip
     try simp only [thenS]
     refine ⟨_, ?_, rfl⟩
     exact Less.a0
    obtain rfl : v5 = false := by rw [hv5]; simp [fP, f0, f1]
    apply AW.sr
    iterate 4 refine AL.z ?_
    iterate 3 refine AL.zy ?_
    refine AL.z ?_
    apply AL.nil
    try simp only [nd]
    refine AW.condT rfl ?_
    apply AW.region
    refine AL.z ?_
    (refine AL.st rfl (st_store inf4 rfl rfl rfl rfl rfl rfl rfl zT7 rfl) ?_)
    apply AL.nil
    try simp only [nd, setL, V.cs, nz, Nat.reduceAdd, nm, ns]
    refine ⟨_, ?_, rfl⟩
    exact Less.a0
   rintro s' rfl
   clear hv5
   apply AW.sr
   refine AL.z ?_
   apply AL.nil
   try simp only [nd]
   apply AW.block
   refine AW.loop (fun s' => ∃ (i : Nat) (b1 b2 b3 b4 b5 : Bool), i ≤ la ∧ b1 = (u1 && (xa.take i).all fA) ∧ b2 = (u2 && (xa.take i).all fF) ∧ b3 = ((d3 && disN xa i) && b2) ∧ b4 = (u4 && srtN xa i) ∧ b5 = (v5 && (xa.take i).all fW) ∧ s' = ⟨94, [(1, .ref 1 0), (2, .ref 2 0), (5, .ref 5 0), (6, .i q), (7, .ref 7 0), (8, .i i)], [(1, ⟨24, [.i st, .d (stsD sts)], false, 0⟩), (2, ⟨37, [.b false, .b false, .b false, .b false, .b false], false, 0⟩), (5, ⟨37, [.b b1, .b b2, .b b3, .b b4, .b b5], false, 0⟩), (7, ⟨35, [.i xf, .d (arsD xa)], false, 0⟩)], []⟩) (fun s' => la - s'.nat 8) ⟨_, ?_, 0, u1, u2, u3, u4, v5, by omega, by simp, by simp, by rw [h6]; simp [disN], by simp [srtN], by simp, rfl⟩ ?_
   ·exact Less.a0
   clear h6
   rintro s' ⟨i, b1, b2, b3, b4, b5, hi, h1, h2, h3, h4, h5, rfl⟩
   by_cases hil : i < la
   ·obtain ⟨y, hy⟩ := get_lt hla hil
    have hyw := hw1 y (List.mem_of_getElem? hy)
    have a1 := all_snoc fA hy
    have a2 := all_snoc fF hy
    have a3 := dis_step hy
    have a4 := srt_step hy
    have a5 := all_snoc fW hy
    have a1' : (u1 && (xa.take (i + 1)).all fA) = (b1 && fA y) := by rw [a1, h1, Bool.and_assoc]
    have a2' : (u2 && (xa.take (i + 1)).all fF) = (b2 && fF y) := by rw [a2, h2, Bool.and_assoc]
    have a5' : (v5 && (xa.take (i + 1)).all fW) = (b5 && fW y) := by rw [a5, h5, Bool.and_assoc]
    have a4' : (u4 && srtN xa (i + 1)) = (b4 && (xa.take i).all fun b => !ahd y b) := by rw [a4, h4, Bool.and_assoc]
    have a3' : ((d3 && disN xa (i + 1)) && (b2 && fF y)) = ((b3 && fF y) && (xa.take i).all fun b => !(decide (y.i = b.i) && decide (y.o = b.o))) := by rw [a3, h3, ← band4]
    clear a1 a2 a3 a4 a5 h1 h2 h3 h4 h5
    obtain ⟨ff, hff⟩ : ∃ v, fF y = v := ⟨_, rfl⟩
    have hem := am_IsEmpty y ff hff
    have haR := fun z => am_AheadR y z
    rw [hff] at a2' a3'
    clear hff
    obtain ⟨c1, hc1⟩ : ∃ v, v = (b1 && fA y) := ⟨_, rfl⟩
    obtain ⟨c2, hc2⟩ : ∃ v, v = (b2 && ff) := ⟨_, rfl⟩
    obtain ⟨c3, hc3⟩ : ∃ v, v = (b3 && ff) := ⟨_, rfl⟩
    obtain ⟨c5, hc5⟩ : ∃ v, v = (b5 && fW y) := ⟨_, rfl⟩
    rw [← hc1] at a1'
    rw [← hc2] at a2' a3'
    rw [← hc3] at a3'
    rw [← hc5] at a5'
    obtain ⟨G3, hG3⟩ : ∃ G : Ar → Bool, G = fun b => !(decide (y.i = b.i) && decide (y.o = b.o)) := ⟨_, rfl⟩
    obtain ⟨G4, hG4⟩ : ∃ G : Ar → Bool, G = fun b => !ahd y b := ⟨_, rfl⟩
    rw [← hG3] at a3'
    rw [← hG4] at a4'
    obtain ⟨yi, yo, yw, yt⟩ := y
    simp only at hc1 hc5 hyw hG3
    apply AW.seq
    apply AW.sr
    iterate 5 refine AL.z ?_
    apply AL.nil
    try simp only [nd]
    refine AW.condT rfl ?_
    apply AW.skip
    try simp only [thenS]
    apply AW.seq
    apply AW.block
    apply AW.sr
    iterate 5 refine AL.z ?_
    refine AL.sm rfl (sm_alloc (l := [.d (.p (.int .i64 0)), .d (.p (.int .i64 0)), .d (.p (.int .i64 0)), .d (.p (.int .i64 0))]) 9 inf47 rfl rfl rfl rfl) ?_
    refine AL.y ?_
    apply AL.nil
    try simp only [nd, setL, V.cs, nz, Nat.reduceAdd, nm, ns]
    refine AW.seqc (fun s' => s' = ⟨94, [(1, .ref 1 0), (2, .ref 2 0), (5, .ref 5 0), (6, .i q), (7, .ref 7 0), (8, .i i), (9, .ref 9 0)], [(1, ⟨24, [.i st, .d (stsD sts)], false, 0⟩), (2, ⟨37, [.b false, .b false, .b false, .b false, .b false], false, 0⟩), (5, ⟨37, [.b c1, .b b2, .b b3, .b b4, .b b5], false, 0⟩), (7, ⟨35, [.i xf, .d (arsD xa)], false, 0⟩), (9, ⟨47, [.i yi, .i yo, .i yw, .i yt], false, 0⟩)], []⟩) ?_ ?_
    ·skip
     by_cases g1 : yi = yo
     ·obtain rfl : c1 = b1 := by rw [hc1]; simp [fA, g1]
      apply AW.sr
      iterate 5 refine AL.z ?_
      apply AL.nil
      try simp only [nd]
      refine AW.condF rfl ?_
      apply AW.skip
      try simp only [thenS]
      refine ⟨_, ?_, rfl⟩
      exact Less.a0
     obtain rfl : c1 = false := by rw [hc1]; simp [fA, g1]
     apply AW.sr
     iterate 5 refine AL.z ?_
     apply AL.nil
     try simp only [nd]
     refine AW.condT rfl ?_
     apply AW.region
     refine AL.z ?_
     (refine AL.st rfl (st_store inf4 rfl rfl rfl rfl rfl rfl rfl zT7 rfl) ?_)
     apply AL.nil
     try simp only [nd, setL, V.cs, nz, Nat.reduceAdd, nm, ns]
     refine ⟨_, ?_, rfl⟩
     exact Less.a0
    rintro s' rfl
    clear hc1
    refine AW.seqc (fun s' => s' = ⟨94, [(1, .ref 1 0), (2, .ref 2 0), (5, .ref 5 0), (6, .i q), (7, .ref 7 0), (8, .i i), (9, .ref 9 0)], [(1, ⟨24, [.i st, .d (stsD sts)], false, 0⟩), (2, ⟨37, [.b false, .b false, .b false, .b false, .b false], false, 0⟩), (5, ⟨37, [.b c1, .b c2, .b c3, .b b4, .b b5], false, 0⟩), (7, ⟨35, [.i xf, .d (arsD xa)], false, 0⟩), (9, ⟨47, [.i yi, .i yo, .i yw, .i yt], false, 0⟩)], []⟩) ?_ ?_
    ·skip
     cases ff with
     | true =>
      obtain rfl : c2 = b2 := by rw [hc2]; simp
      obtain rfl : c3 = b3 := by rw [hc3]; simp
      apply AW.sr
      refine AL.z ?_
      refine AL.call (post := ?pc20) rfl (sm_call (args := [_]) ?hc20 ⟨Tryz.func43, rfl, rfl, rfl, rfl⟩ rfl rfl rfl rfl) ?_
      case hc20 => exact hem
      rintro _ rfl -
      try dsimp only
      apply AL.nil
      try simp only [nd, setL, V.cs, nz, Nat.reduceAdd, nm, ns]
      refine AW.condF rfl ?_
      apply AW.skip
      try simp only [thenS]
      refine ⟨_, ?_, rfl⟩
      exact Less.a0
     | false =>
      obtain rfl : c2 = false := by rw [hc2]; simp
      obtain rfl : c3 = false := by rw [hc3]; simp
      apply AW.sr
      refine AL.z ?_
      refine AL.call (post := ?pc21) rfl (sm_call (args := [_]) ?hc21 ⟨Tryz.func43, rfl, rfl, rfl, rfl⟩ rfl rfl rfl rfl) ?_
      case hc21 => exact hem
      rintro _ rfl -
      try dsimp only
      apply AL.nil
      try simp only [nd, setL, V.cs, nz, Nat.reduceAdd, nm, ns]
      refine AW.condT rfl ?_
      apply AW.sr
      refine AL.z ?_
      (refine AL.st rfl (st_store inf4 rfl rfl rfl rfl rfl rfl rfl zT7 rfl) ?_)
      apply AL.nil
      try simp only [nd, setL, V.cs, nz, Nat.reduceAdd, nm, ns]
      apply AW.region
      refine AL.z ?_
      (refine AL.st rfl (st_store inf4 rfl rfl rfl rfl rfl rfl rfl zT7 rfl) ?_)
      apply AL.nil
      try simp only [nd, setL, V.cs, nz, Nat.reduceAdd, nm, ns]
      refine ⟨_, ?_, rfl⟩
      exact Less.a0
    rintro s' rfl
    clear hc2 hc3 hem
    refine AW.seqc (fun s' => s' = ⟨94, [(1, .ref 1 0), (2, .ref 2 0), (5, .ref 5 0), (6, .i q), (7, .ref 7 0), (8, .i i), (9, .ref 9 0)], [(1, ⟨24, [.i st, .d (stsD sts)], false, 0⟩), (2, ⟨37, [.b false, .b false, .b false, .b false, .b false], false, 0⟩), (5, ⟨37, [.b c1, .b c2, .b c3, .b b4, .b c5], false, 0⟩), (7, ⟨35, [.i xf, .d (arsD xa)], false, 0⟩), (9, ⟨47, [.i yi, .i yo, .i yw, .i yt], false, 0⟩)], []⟩) ?_ ?_
    ·skip
     by_cases g1 : yw = 0
     ·obtain rfl : c5 = b5 := by rw [hc5]; simp [fW, g1]
      apply AW.sr
      iterate 3 refine AL.z ?_
      apply AL.nil
      try simp only [nd]
      refine AW.condF rfl ?_
      apply AW.skip
      try simp only [thenS]
      refine ⟨_, ?_, rfl⟩
      exact Less.a0
     obtain rfl : c5 = false := by rw [hc5]; simp [fW, g1]
     apply AW.sr
     iterate 3 refine AL.z ?_
     apply AL.nil
     try simp only [nd]
     refine AW.condT rfl ?_
     apply AW.region
     refine AL.z ?_
     (refine AL.st rfl (st_store inf4 rfl rfl rfl rfl rfl rfl rfl zT7 rfl) ?_)
     apply AL.nil
     try simp only [nd, setL, V.cs, nz, Nat.reduceAdd, nm, ns]
     refine ⟨_, ?_, rfl⟩
     exact Less.a0
    rintro s' rfl
    clear hc5
    apply AW.sr
    refine AL.z ?_
    apply AL.nil
    try simp only [nd]
    apply AW.block
    refine AW.loop (fun s' => ∃ (j : Nat) (g3 g4 : Bool), j ≤ i ∧ g3 = (c3 && (xa.take j).all G3) ∧ g4 = (b4 && (xa.take j).all G4) ∧ s' = ⟨94, [(1, .ref 1 0), (2, .ref 2 0), (5, .ref 5 0), (6, .i q), (7, .ref 7 0), (8, .i i), (9, .ref 9 0), (10, .i j)], [(1, ⟨24, [.i st, .d (stsD sts)], false, 0⟩), (2, ⟨37, [.b false, .b false, .b false, .b false, .b false], false, 0⟩), (5, ⟨37, [.b c1, .b c2, .b g3, .b g4, .b c5], false, 0⟩), (7, ⟨35, [.i xf, .d (arsD xa)], false, 0⟩), (9, ⟨47, [.i yi, .i yo, .i yw, .i yt], false, 0⟩)], []⟩) (fun s' => i - s'.nat 10) ⟨_, ?_, 0, c3, b4, by omega, by simp, by simp, rfl⟩ ?_
    ·exact Less.a0
    rintro s' ⟨j, g3, g4, hj, k3, k4, rfl⟩
    by_cases hjl : j < i
    ·obtain ⟨z, hz⟩ := get_lt hla (show j < la by omega)
     have a3 := all_snoc G3 hz
     have a4 := all_snoc G4 hz
     have b3 : (c3 && (xa.take (j + 1)).all G3) = (g3 && G3 z) := by rw [a3, k3, Bool.and_assoc]
     have b4' : (b4 && (xa.take (j + 1)).all G4) = (g4 && G4 z) := by rw [a4, k4, Bool.and_assoc]
     clear a3 a4 k3 k4
     obtain ⟨ah, hah⟩ : ∃ v, ahd ⟨yi, yo, yw, yt⟩ z = v := ⟨_, rfl⟩
     have hcon := haR z ah hah
     have hG4z : G4 z = !ah := by rw [hG4, ← hah]
     rw [hG4z] at b4'
     have hG3z : G3 z = !(decide (yi = z.i) && decide (yo = z.o)) := by rw [hG3]
     clear hah hG4z
     obtain ⟨p3, hp3⟩ : ∃ v, v = (g3 && G3 z) := ⟨_, rfl⟩
     rw [← hp3] at b3
     rw [hG3z] at hp3
     clear hG3z
     obtain ⟨zi, zo, zw, zt⟩ := z
     simp only at hp3
     apply AW.seq
     apply AW.sr
     iterate 3 refine AL.z ?_
     apply AL.nil
     try simp only [nd]
     refine AW.condT rfl ?_
     apply AW.skip
     try simp only [thenS]
     apply AW.seq
     apply AW.block
     apply AW.sr
     iterate 5 refine AL.z ?_
     refine AL.sm rfl (sm_alloc (l := [.d (.p (.int .i64 0)), .d (.p (.int .i64 0)), .d (.p (.int .i64 0)), .d (.p (.int .i64 0))]) 11 inf47 rfl rfl rfl rfl) ?_
     refine AL.y ?_
     apply AL.nil
     try simp only [nd, setL, V.cs, nz, Nat.reduceAdd, nm, ns]
     refine AW.seqc (fun s' => s' = ⟨94, [(1, .ref 1 0), (2, .ref 2 0), (5, .ref 5 0), (6, .i q), (7, .ref 7 0), (8, .i i), (9, .ref 9 0), (10, .i j), (11, .ref 11 0)], [(1, ⟨24, [.i st, .d (stsD sts)], false, 0⟩), (2, ⟨37, [.b false, .b false, .b false, .b false, .b false], false, 0⟩), (5, ⟨37, [.b c1, .b c2, .b p3, .b g4, .b c5], false, 0⟩), (7, ⟨35, [.i xf, .d (arsD xa)], false, 0⟩), (9, ⟨47, [.i yi, .i yo, .i yw, .i yt], false, 0⟩), (11, ⟨47, [.i zi, .i zo, .i zw, .i zt], false, 0⟩)], []⟩) ?_ ?_
     ·skip
      by_cases t1 : yi = zi
      ·by_cases t2 : yo = zo
       ·obtain rfl : p3 = false := by rw [hp3]; simp [t1, t2]
        apply AW.sr
        iterate 6 refine AL.z ?_
        iterate 5 refine AL.zy ?_
        refine AL.z ?_
        apply AL.nil
        try simp only [nd]
        refine AW.condT rfl ?_
        apply AW.region
        refine AL.z ?_
        (refine AL.st rfl (st_store inf4 rfl rfl rfl rfl rfl rfl rfl zT7 rfl) ?_)
        apply AL.nil
        try simp only [nd, setL, V.cs, nz, Nat.reduceAdd, nm, ns]
        refine ⟨_, ?_, rfl⟩
        exact Less.a0
       obtain rfl : p3 = g3 := by rw [hp3]; simp [t1, t2]
       apply AW.sr
       iterate 6 refine AL.z ?_
       iterate 5 refine AL.zy ?_
       refine AL.z ?_
       apply AL.nil
       try simp only [nd]
       refine AW.condF rfl ?_
       apply AW.skip
       try simp only [thenS]
       refine ⟨_, ?_, rfl⟩
       exact Less.a0
      obtain rfl : p3 = g3 := by rw [hp3]; simp [t1]
      apply AW.sr
      iterate 6 refine AL.z ?_
      refine AL.noV rfl rfl rfl rfl ?_
      refine AL.noV rfl rfl rfl rfl ?_
      refine AL.noV rfl rfl rfl rfl ?_
      refine AL.noV rfl rfl rfl rfl ?_
      refine AL.noV rfl rfl rfl rfl ?_
      refine AL.z ?_
      apply AL.nil
      try simp only [nd]
      refine AW.condF rfl ?_
      apply AW.skip
      try simp only [thenS]
      refine ⟨_, ?_, rfl⟩
      exact Less.a0
     rintro s' rfl
     clear hp3
     cases ah with
     | true =>
      simp only [Bool.not_true, Bool.and_false] at b4'
      apply AW.sr
      iterate 2 refine AL.z ?_
      refine AL.call (post := ?pc22) rfl (sm_call (args := [_, _]) ?hc22 ⟨Tryz.func44, rfl, rfl, rfl, rfl⟩ rfl rfl rfl rfl) ?_
      case hc22 => exact hcon
      rintro _ rfl -
      try dsimp only
      apply AL.nil
      try simp only [nd, setL, V.cs, nz, Nat.reduceAdd, nm, ns]
      refine AW.condT rfl ?_
      apply AW.region
      refine AL.z ?_
      (refine AL.st rfl (st_store inf4 rfl rfl rfl rfl rfl rfl rfl zT7 rfl) ?_)
      apply AL.nil
      try simp only [nd, setL, V.cs, nz, Nat.reduceAdd, nm, ns]
      apply AW.region
      iterate 3 refine AL.z ?_
      apply AL.nil
      try simp only [nd]
      refine ⟨_, ?_, ⟨j + 1, p3, false, by omega, b3.symm, b4'.symm, rfl⟩, ?_⟩
      ·exact Less.a0
      simp [S.nat, fnd]; omega
     | false =>
      simp only [Bool.not_false, Bool.and_true] at b4'
      apply AW.sr
      iterate 2 refine AL.z ?_
      refine AL.call (post := ?pc23) rfl (sm_call (args := [_, _]) ?hc23 ⟨Tryz.func44, rfl, rfl, rfl, rfl⟩ rfl rfl rfl rfl) ?_
      case hc23 => exact hcon
      rintro _ rfl -
      try dsimp only
      apply AL.nil
      try simp only [nd, setL, V.cs, nz, Nat.reduceAdd, nm, ns]
      refine AW.condF rfl ?_
      apply AW.skip
      try simp only [thenS]
      apply AW.region
      iterate 3 refine AL.z ?_
      apply AL.nil
      try simp only [nd]
      refine ⟨_, ?_, ⟨j + 1, p3, g4, by omega, b3.symm, b4'.symm, rfl⟩, ?_⟩
      ·exact Less.a0
      simp [S.nat, fnd]; omega
    obtain rfl : j = i := by omega
    rw [← k3] at a3'
    rw [← k4] at a4'
    rw [← a2'] at a3'
    apply AW.seq
    apply AW.sr
    iterate 3 refine AL.z ?_
    apply AL.nil
    try simp only [nd]
    refine AW.condF rfl ?_
    refine AW.exit ?_
    try simp only [thenS, inBlockS, ↓reduceIte, Nat.reduceEqDiff]
    apply AW.region
    iterate 3 refine AL.z ?_
    apply AL.nil
    try simp only [nd]
    refine ⟨_, ?_, ⟨j + 1, c1, c2, g3, g4, c5, by omega, a1'.symm, a2'.symm, ?_, a4'.symm, a5'.symm, rfl⟩, ?_⟩
    ·exact Less.a0
    ·rw [← a3', a2']
    simp [S.nat, fnd]; omega
   obtain rfl : i = la := by omega
   rw [List.take_of_length_le zT15] at h1 h2 h5
   rw [← h1] at e1
   rw [← h2] at e2
   rw [← h4] at e4
   rw [← h5] at e5
   apply AW.seq
   apply AW.sr
   iterate 5 refine AL.z ?_
   apply AL.nil
   try simp only [nd]
   refine AW.condF rfl ?_
   refine AW.exit ?_
   try simp only [thenS, inBlockS, ↓reduceIte, Nat.reduceEqDiff]
   apply AW.region
   iterate 3 refine AL.z ?_
   apply AL.nil
   try simp only [nd]
   refine ⟨_, ?_, ⟨q + 1, b1, b2, b3, d3 && disN xa i, b4, b5, by omega, e1.symm, e2.symm, e3.symm, h3, e4.symm, e5.symm, rfl⟩, ?_⟩
   ·exact Less.a0
   simp [S.nat, fnd]; omega
  rw [List.take_of_length_le zT15] at h1 h2 h3 h4 h5
  have k1 : bA sts = u1 := h1.symm
  have k2 : bFl sts = u2 := h2.symm
  have k3 : bDi sts = d3 := h3.symm
  have k4 : bSo sts = u4 := h4.symm
  have k5 : bPl sts = u5 := h5.symm
  rw [k1, k2, k3, k4, k5, ← h6]
  clear h1 h2 h3 h4 h5 k1 k2 k3 k4 k5
  apply AW.seq
  apply AW.sr
  iterate 5 refine AL.z ?_
  apply AL.nil
  try simp only [nd]
  refine AW.condF rfl ?_
  refine AW.exit ?_
  try simp only [thenS, inBlockS, ↓reduceIte, Nat.reduceEqDiff]
  apply AW.sr
  refine AL.z ?_
  refine AL.y ?_
  refine AL.z ?_
  apply AL.nil
  try simp only [nd, setL, V.cs, nz, Nat.reduceAdd, nm, ns]
  apply AW.ret
  exact ⟨[_, _], ⟨⟨2, 0, _, _, rfl, rfl, rfl, Tryz.underlying37, .inr ⟨rfl, _, _, _, _, inf37, rfl, rfl, rfl⟩⟩, rfl, trivial⟩, rfl, by simp [tupOf, V.pure, V.has, V.hasL]⟩
 rw [prV_no h0]
 obtain ⟨st, sts⟩ := m
 obtain ⟨e, he⟩ : ∃ e, machE ⟨st, sts⟩ = e := ⟨_, rfl⟩
 rw [he] at h0 ⊢
 refine Fn.intro (n := 94) ⟨Tryz.func19, rfl, rfl, rfl, rfl⟩ zT8 zT16 fun w0 out => ?_
 apply AW.sr
 refine AL.sm rfl (sm_box 1 rfl rfl rfl rfl rfl) ?_
 refine AL.sm rfl (sm_alloc (l := [.d (.p (.bool false)), .d (.p (.bool false)), .d (.p (.bool false)), .d (.p (.bool false)), .d (.p (.bool false))]) 2 inf37 rfl rfl rfl rfl) ?_
 refine AL.z ?_
 apply AL.nil
 try simp only [nd, setL, V.cs, nz, Nat.reduceAdd, nm, ns, enum]
 apply AW.sr
 refine AL.z ?_
 refine AL.call (post := ?pc24) rfl (sm_call (args := [_]) ?hc24 ⟨Tryz.func30, rfl, rfl, rfl, rfl⟩ rfl rfl rfl rfl) ?_
 case hc24 => exact Fn.eqi (am_Fault ⟨st, sts⟩) he
 rintro _ rfl -
 try dsimp only
 refine AL.z ?_
 apply AL.nil
 try simp only [nd, setL, V.cs, nz, Nat.reduceAdd, nm, ns]
 apply AW.seq
 apply AW.sr
 iterate 2 refine AL.z ?_
 apply AL.nil
 try simp only [nd]
 refine AW.condT rfl ?_
 apply AW.sr
 refine AL.rp rfl rfl (rp_build (vs := []) (zs := [.d (.p (.bool false)), .d (.p (.bool false)), .d (.p (.bool false)), .d (.p (.bool false)), .d (.p (.bool false))]) pl37 inf37 rfl rfl rfl rfl) ?_
 refine AL.z ?_
 refine AL.y ?_
 refine AL.z ?_
 apply AL.nil
 try simp only [nd, setL, V.cs, nz, Nat.reduceAdd, nm, ns]
 apply AW.ret
 exact ⟨[_, _], ⟨⟨2, 0, _, _, rfl, rfl, rfl, Tryz.underlying37, .inr ⟨rfl, _, _, _, _, inf37, rfl, rfl, rfl⟩⟩, rfl, trivial⟩, rfl, by simp [tupOf, V.pure, V.has, V.hasL]⟩
section
variable {c : Cx} {s : S} {o : Oper}
theorem rp_notT {t : TypeId} {x : Operand} (ho : o.op = .unOp .not t x) (hx : s.ev x = some (.b true)) : RP c o s (.b false) := rp_not ho hx
theorem rp_notF {t : TypeId} {x : Operand} (ho : o.op = .unOp .not t x) (hx : s.ev x = some (.b false)) : RP c o s (.b true) := rp_not ho hx
end
theorem flA {l : List Ar} {n : Nat} (h : l.length = n) : (l.flatMap arV2).length = n * 4 := by rw [flat_len (sz := 4) (fun _ => rfl), h]
theorem am_placed (l : List Ar) (a : Ar) (hl : l.length ≤ 400) : Fn Tryz.prog 91 [.d (arsD l), .agg ((arD a).map V.d)] (fun v => v = .d (arsD (plc a l))) := by
 obtain ⟨n, hn⟩ : ∃ n, l.length = n := ⟨_, rfl⟩
 rw [hn] at hl
 obtain ⟨P, hP⟩ : ∃ P, plc a l = P := ⟨_, rfl⟩
 have hPl : P.length = n + 1 := by rw [← hP, plc_len, hn]
 rw [hP]
 refine Fn.intro (n := 42) ⟨Tryz.func91, rfl, rfl, rfl, rfl⟩ zT8 zT16 fun w0 out => ?_
 apply AW.sr
 refine AL.sm rfl (sm_box 3 rfl rfl rfl rfl rfl) ?_
 refine AL.z ?_
 apply AL.nil
 try simp only [nd, setL, V.cs, nz, Nat.reduceAdd, nm, ns, enum]
 apply AW.sr
 refine AL.z ?_
 apply AL.nil
 try simp only [nd]
 apply AW.sr
 refine AL.z ?_
 apply AL.nil
 try simp only [nd]
 refine AW.adopt 5 100 4 47 rfl zT4 ?_
 refine AW.seqc (fun s' => ∃ (dn : Bool) (A : List Ar) (ak : Nat), A.length = ak ∧ (dn = false ∧ A = l ∧ P = l ++ [a] ∨ dn = true ∧ A = P) ∧ s' = ⟨42, [(0, .d (arsD l)), (3, .ref 3 0), (5, .own 100 4 ak (decide (ak = 0))), (6, .b dn)], [(3, ⟨47, (arD a).map V.d, false, 0⟩), (100, ⟨47, A.flatMap arV2, decide (ak = 0), 4⟩)], []⟩) ?_ ?_
 ·apply AW.seq
  apply AW.region
  refine AL.z ?_
  apply AL.nil
  try simp only [nd]
  apply AW.block
  refine AW.loop (fun s' => ∃ (i : Nat) (dn : Bool) (A : List Ar) (ak : Nat), i ≤ n ∧ A.length = ak ∧ (dn = false ∧ A = l.take i ∧ (∀ y ∈ l.take i, ¬ ahd a y = true) ∨ dn = true ∧ A = plc a (l.take i) ∧ ∃ y ∈ l.take i, ahd a y = true) ∧ s' = ⟨42, [(0, .d (arsD l)), (3, .ref 3 0), (5, .own 100 4 ak (decide (ak = 0))), (6, .b dn), (7, .i i)], [(3, ⟨47, (arD a).map V.d, false, 0⟩), (100, ⟨47, A.flatMap arV2, decide (ak = 0), 4⟩)], []⟩) (fun s' => n - s'.nat 7) ⟨_, ?_, 0, false, [], 0, by omega, rfl, .inl ⟨rfl, rfl, by simp⟩, rfl⟩ ?_
  ·exact Less.a0
  rintro s' ⟨i, dn, A, ak, hi, hak, hA, rfl⟩
  by_cases hlt : i < n
  ·obtain ⟨x, hx⟩ := get_lt hn hlt
   have hsn := take_snoc hx
   have hfl := flA hak
   have hAl : ak ≤ 401 := by
    rw [← hak]
    rcases hA with ⟨_, rfl, _⟩ | ⟨_, rfl, _⟩
    ·rw [List.length_take]; omega
    rw [plc_len, List.length_take]; omega
   rcases hA with ⟨rfl, hA, hno⟩ | ⟨rfl, hA, hy⟩
   ·by_cases hc : ahd a x = true
    ·have hfl2 : (A.flatMap arV2 ++ arV2 a).length = (ak + 1) * 4 := by simp [hfl]; omega
     have hnew : A ++ [a] ++ [x] = plc a (l.take (i + 1)) := by
      rw [hsn, plc_ge hno, hA]; simp [plc, hc]
     have hex : ∃ y ∈ l.take (i + 1), ahd a y = true := ⟨x, by rw [hsn]; simp, hc⟩
     apply AW.seq
     apply AW.sr
     iterate 4 refine AL.z ?_
     apply AL.nil
     try simp only [nd]
     refine AW.condT rfl ?_
     apply AW.skip
     try simp only [thenS]
     apply AW.seq
     apply AW.block
     apply AW.seq
     apply AW.seq
     refine AW.draw [(0, true), (1, true), (2, true), (3, true), (4, true), (5, true), (6, true), (7, true), (8, false), (9, false)] (fun i => !([] : List Nat).contains i) 10 zT12 zT12 rfl zT12 ?_
     refine AD1.z ?_
     refine AD1.rp rfl rfl rfl (fun _ _ h => h) (rp_notF rfl rfl) ?_
     refine AD1.z ?_
     iterate 5 refine AD1.zy ?_
     refine AD1.go ?_
     (refine AD2.cally (post := ?pc5) rfl rfl rfl (sm_call (args := [_, _]) ?hc5 ⟨Tryz.func44, rfl, rfl, rfl, rfl⟩ rfl rfl rfl rfl) ?_; (case hc5 => (exact am_AheadR a x _ hc)); rintro _ rfl -; try dsimp only)
     refine AD2.rp1 rfl rfl rfl (rp_pick rfl rfl rfl) ?_
     refine AD2.nil ?_
     try simp only [nd, setL, V.cs, nz, Nat.reduceAdd, nm, ns]
     refine AW.condT rfl ?_
     apply AW.sr
     iterate 2 refine AL.z ?_
     refine AL.sm rfl (sm_slice (vs := [(0, _)]) (zs := [.d (.p (.int .i64 0)), .d (.p (.int .i64 0)), .d (.p (.int .i64 0)), .d (.p (.int .i64 0))]) 26 Tryz.underlying33 inf47 rfl rfl zT14 zT14 zT14 rfl rfl rfl rfl zT1 rfl rfl) ?_
     refine AL.st rfl (st_appendF Tryz.underlying33 inf47 rfl zT14 rfl rfl rfl rfl rfl rfl zT5 zT1 rfl rfl rfl rfl rfl rfl rfl zT14 zT15 zT15 rfl) ?_
     simp only [S.forget, S.put, S.newObj, junkIf, V.has, V.hasL, nh, hasL_flat, hasL_append, List.map_cons, List.map_nil, List.filter_cons, List.filter_nil, Nat.reduceBNe, Nat.reduceBEq, eq_self, bne_self_eq_false,  Bool.not_true, Bool.not_false, Bool.or_false, Bool.or_true, Bool.false_or, Bool.true_or, if_true, if_false, Bool.false_eq_true, ite_true, ite_false, ↓reduceIte, beq_self_eq_true, Nat.reduceEqDiff]
     refine AL.z ?_
     apply AL.nil
     try simp only [nd, setL, V.cs, nz, Nat.reduceAdd, nm, ns]
     apply AW.region
     refine AL.z ?_
     apply AL.nil
     try simp only [nd]
     apply AW.region
     iterate 5 refine AL.z ?_
     refine AL.sm rfl (sm_slice (vs := [(0, _)]) (zs := [.d (.p (.int .i64 0)), .d (.p (.int .i64 0)), .d (.p (.int .i64 0)), .d (.p (.int .i64 0))]) 33 Tryz.underlying33 inf47 rfl rfl zT14 zT14 zT14 rfl rfl rfl rfl zT1 rfl rfl) ?_
     refine AL.st rfl (st_appendF Tryz.underlying33 inf47 rfl zT14 rfl rfl rfl rfl rfl rfl zT5 zT1 rfl rfl rfl rfl rfl rfl rfl zT14 zT15 zT15 rfl) ?_
     simp only [S.forget, S.put, S.newObj, junkIf, V.has, V.hasL, nh, hasL_flat, hasL_append, List.map_cons, List.map_nil, List.filter_cons, List.filter_nil, Nat.reduceBNe, Nat.reduceBEq, eq_self, bne_self_eq_false,  Bool.not_true, Bool.not_false, Bool.or_false, Bool.or_true, Bool.false_or, Bool.true_or, if_true, if_false, Bool.false_eq_true, ite_true, ite_false, ↓reduceIte, beq_self_eq_true, Nat.reduceEqDiff]
     refine AL.z ?_
     apply AL.nil
     try simp only [nd, setL, V.cs, nz, Nat.reduceAdd, nm, ns]
     apply AW.region
     iterate 3 refine AL.z ?_
     apply AL.nil
     try simp only [nd]
     refine ⟨_, ?_, ⟨i + 1, true, A ++ [a] ++ [x], ak + 1 + 1, by omega, by simp [hak], .inr ⟨rfl, hnew, hex⟩, rfl⟩, ?_⟩
     ·simp only [List.flatMap_append, List.flatMap_cons, List.flatMap_nil, List.append_nil]
      exact Less.a0
     simp [S.nat, fnd]; omega
    have hcf : ahd a x = false := by simpa using hc
    have hnew : A ++ [x] = l.take (i + 1) := by rw [hsn, hA]
    have hall : ∀ y ∈ l.take (i + 1), ¬ ahd a y = true := fun y hy => by
     rw [hsn] at hy
     rcases List.mem_append.1 hy with hy | hy
     ·exact hno y hy
     simp only [List.mem_singleton] at hy
     rw [hy]; exact hc
    apply AW.seq
    apply AW.sr
    iterate 4 refine AL.z ?_
    apply AL.nil
    try simp only [nd]
    refine AW.condT rfl ?_
    apply AW.skip
    try simp only [thenS]
    apply AW.seq
    apply AW.block
    apply AW.seq
    apply AW.seq
    refine AW.draw [(0, true), (1, true), (2, true), (3, true), (4, true), (5, true), (6, true), (7, true), (8, false), (9, false)] (fun i => !([] : List Nat).contains i) 10 zT12 zT12 rfl zT12 ?_
    refine AD1.z ?_
    refine AD1.rp rfl rfl rfl (fun _ _ h => h) (rp_notF rfl rfl) ?_
    refine AD1.z ?_
    iterate 5 refine AD1.zy ?_
    refine AD1.go ?_
    (refine AD2.cally (post := ?pc6) rfl rfl rfl (sm_call (args := [_, _]) ?hc6 ⟨Tryz.func44, rfl, rfl, rfl, rfl⟩ rfl rfl rfl rfl) ?_; (case hc6 => (exact am_AheadR a x _ hcf)); rintro _ rfl -; try dsimp only)
    refine AD2.rp1 rfl rfl rfl (rp_pick rfl rfl rfl) ?_
    refine AD2.nil ?_
    try simp only [nd, setL, V.cs, nz, Nat.reduceAdd, nm, ns]
    refine AW.condF rfl ?_
    apply AW.skip
    try simp only [thenS]
    apply AW.region
    iterate 5 refine AL.z ?_
    refine AL.sm rfl (sm_slice (vs := [(0, _)]) (zs := [.d (.p (.int .i64 0)), .d (.p (.int .i64 0)), .d (.p (.int .i64 0)), .d (.p (.int .i64 0))]) 33 Tryz.underlying33 inf47 rfl rfl zT14 zT14 zT14 rfl rfl rfl rfl zT1 rfl rfl) ?_
    refine AL.st rfl (st_appendF Tryz.underlying33 inf47 rfl zT14 rfl rfl rfl rfl rfl rfl zT5 zT1 rfl rfl rfl rfl rfl rfl rfl zT14 zT15 zT15 rfl) ?_
    simp only [S.forget, S.put, S.newObj, junkIf, V.has, V.hasL, nh, hasL_flat, hasL_append, List.map_cons, List.map_nil, List.filter_cons, List.filter_nil, Nat.reduceBNe, Nat.reduceBEq, eq_self, bne_self_eq_false,  Bool.not_true, Bool.not_false, Bool.or_false, Bool.or_true, Bool.false_or, Bool.true_or, if_true, if_false, Bool.false_eq_true, ite_true, ite_false, ↓reduceIte, beq_self_eq_true, Nat.reduceEqDiff]
    refine AL.z ?_
    apply AL.nil
    try simp only [nd, setL, V.cs, nz, Nat.reduceAdd, nm, ns]
    apply AW.region
    iterate 3 refine AL.z ?_
    apply AL.nil
    try simp only [nd]
    refine ⟨_, ?_, ⟨i + 1, false, A ++ [x], ak + 1, by omega, by simp [hak], .inl ⟨rfl, hnew, hall⟩, rfl⟩, ?_⟩
    ·simp only [List.flatMap_append, List.flatMap_cons, List.flatMap_nil, List.append_nil]
     exact Less.a0
    simp [S.nat, fnd]; omega
   have hnew : A ++ [x] = plc a (l.take (i + 1)) := by rw [hsn, plc_lt hy, hA]
   have hex : ∃ y ∈ l.take (i + 1), ahd a y = true := by
    obtain ⟨y, h1, h2⟩ := hy
    exact ⟨y, by rw [hsn]; simp [h1], h2⟩
   apply AW.seq
   apply AW.sr
   iterate 4 refine AL.z ?_
   apply AL.nil
   try simp only [nd]
   refine AW.condT rfl ?_
   apply AW.skip
   try simp only [thenS]
   apply AW.seq
   apply AW.block
   apply AW.seq
   apply AW.seq
   refine AW.draw [(0, true), (1, true), (2, true), (3, true), (4, true), (5, true), (6, true), (7, true), (8, false), (9, false)] (fun i => !([] : List Nat).contains i) 10 zT12 zT12 rfl zT12 ?_
   refine AD1.z ?_
   refine AD1.rp rfl rfl rfl (fun _ _ h => h) (rp_notT rfl rfl) ?_
   refine AD1.z ?_
   refine AD1.noV rfl rfl rfl rfl rfl (fun _ _ h => h) ?_
   refine AD1.noV rfl rfl rfl rfl rfl (fun _ _ h => h) ?_
   refine AD1.noV rfl rfl rfl rfl rfl (fun _ _ h => h) ?_
   refine AD1.noV rfl rfl rfl rfl rfl (fun _ _ h => h) ?_
   refine AD1.noV rfl rfl rfl rfl rfl (fun _ _ h => h) ?_
   refine AD1.go ?_
   refine AD2.noV1 rfl rfl rfl rfl rfl ?_
   refine AD2.rp1 rfl rfl rfl (rp_pick rfl rfl rfl) ?_
   refine AD2.nil ?_
   try simp only [nd]
   refine AW.condF rfl ?_
   apply AW.skip
   try simp only [thenS]
   apply AW.region
   iterate 5 refine AL.z ?_
   refine AL.sm rfl (sm_slice (vs := [(0, _)]) (zs := [.d (.p (.int .i64 0)), .d (.p (.int .i64 0)), .d (.p (.int .i64 0)), .d (.p (.int .i64 0))]) 33 Tryz.underlying33 inf47 rfl rfl zT14 zT14 zT14 rfl rfl rfl rfl zT1 rfl rfl) ?_
   refine AL.st rfl (st_appendF Tryz.underlying33 inf47 rfl zT14 rfl rfl rfl rfl rfl rfl zT5 zT1 rfl rfl rfl rfl rfl rfl rfl zT14 zT15 zT15 rfl) ?_
   simp only [S.forget, S.put, S.newObj, junkIf, V.has, V.hasL, nh, hasL_flat, hasL_append, List.map_cons, List.map_nil, List.filter_cons, List.filter_nil, Nat.reduceBNe, Nat.reduceBEq, eq_self, bne_self_eq_false,  Bool.not_true, Bool.not_false, Bool.or_false, Bool.or_true, Bool.false_or, Bool.true_or, if_true, if_false, Bool.false_eq_true, ite_true, ite_false, ↓reduceIte, beq_self_eq_true, Nat.reduceEqDiff]
   refine AL.z ?_
   apply AL.nil
   try simp only [nd, setL, V.cs, nz, Nat.reduceAdd, nm, ns]
   apply AW.region
   iterate 3 refine AL.z ?_
   apply AL.nil
   try simp only [nd]
   refine ⟨_, ?_, ⟨i + 1, true, A ++ [x], ak + 1, by omega, by simp [hak], .inr ⟨rfl, hnew, hex⟩, rfl⟩, ?_⟩
   ·simp only [List.flatMap_append, List.flatMap_cons, List.flatMap_nil, List.append_nil]
    exact Less.a0
   simp [S.nat, fnd]; omega
  rw [List.take_of_length_le zT15] at hA
  have hA2 : dn = false ∧ A = l ∧ P = l ++ [a] ∨ dn = true ∧ A = P := by
   rcases hA with ⟨h1, h2, h3⟩ | ⟨h1, h2, _⟩
   ·have := plc_ge (B := []) h3
    simp only [List.append_nil, plc] at this
    exact .inl ⟨h1, h2, by rw [← hP, this]⟩
   exact .inr ⟨h1, h2.trans hP⟩
  apply AW.seq
  apply AW.sr
  iterate 4 refine AL.z ?_
  apply AL.nil
  try simp only [nd]
  refine AW.condF rfl ?_
  refine AW.exit ?_
  try simp only [thenS, inBlockS, ↓reduceIte, Nat.reduceEqDiff]
  refine ⟨_, ?_, dn, A, ak, hak, hA2, rfl⟩
  exact Less.a0
 rintro s' ⟨dn, A, ak, hak, hA, rfl⟩
 have hfl := flA hak
 rcases hA with ⟨rfl, rfl, he⟩ | ⟨rfl, rfl⟩
 ·obtain rfl : n = ak := by omega
  have hfr : A.flatMap arV2 ++ arV2 a = P.flatMap arV2 := by rw [he]; simp
  apply AW.seq
  apply AW.sr
  refine AL.z ?_
  refine AL.rp rfl rfl (rp_notF rfl rfl) ?_
  apply AL.nil
  try simp only [nd]
  refine AW.condT rfl ?_
  apply AW.region
  iterate 2 refine AL.z ?_
  refine AL.sm rfl (sm_slice (vs := [(0, _)]) (zs := [.d (.p (.int .i64 0)), .d (.p (.int .i64 0)), .d (.p (.int .i64 0)), .d (.p (.int .i64 0))]) 39 Tryz.underlying33 inf47 rfl rfl zT14 zT14 zT14 rfl rfl rfl rfl zT1 rfl rfl) ?_
  refine AL.st rfl (st_appendF Tryz.underlying33 inf47 rfl zT14 rfl rfl rfl rfl rfl rfl zT5 zT1 rfl rfl rfl rfl rfl rfl rfl zT14 zT15 zT15 rfl) ?_
  simp only [S.forget, S.put, S.newObj, junkIf, V.has, V.hasL, nh, hasL_flat, hasL_append, List.map_cons, List.map_nil, List.filter_cons, List.filter_nil, Nat.reduceBNe, Nat.reduceBEq, eq_self, bne_self_eq_false,  Bool.not_true, Bool.not_false, Bool.or_false, Bool.or_true, Bool.false_or, Bool.true_or, if_true, if_false, Bool.false_eq_true, ite_true, ite_false, ↓reduceIte, beq_self_eq_true, Nat.reduceEqDiff]
  refine AL.z ?_
  apply AL.nil
  try simp only [nd, setL, V.cs, nz, Nat.reduceAdd, nm, ns]
  apply AW.seq
  refine AW.freeze 5 32 (P.map arD) rfl rfl rfl (by rw [List.length_map, hPl]) zT15 (rowsF (enc := arD) (sz := 4) (l := P) (fun _ => rfl) hfr) ?_
  apply AW.region
  iterate 2 refine AL.z ?_
  apply AL.nil
  try simp only [nd]
  apply AW.ret
  exact ⟨[_], ⟨rfl, trivial⟩, rfl, by simp [tupOf, V.pure, V.has]⟩
 obtain rfl : ak = n + 1 := by omega
 apply AW.seq
 apply AW.sr
 refine AL.z ?_
 refine AL.rp rfl rfl (rp_notT rfl rfl) ?_
 apply AL.nil
 try simp only [nd]
 refine AW.condF rfl ?_
 apply AW.skip
 try simp only [thenS]
 apply AW.seq
 refine AW.freeze 5 32 (A.map arD) rfl rfl rfl (by rw [List.length_map, hPl]) zT15 (rowsF (enc := arD) (sz := 4) (l := A) (fun _ => rfl) rfl) ?_
 apply AW.region
 iterate 2 refine AL.z ?_
 apply AL.nil
 try simp only [nd]
 apply AW.ret
 exact ⟨[_], ⟨rfl, trivial⟩, rfl, by simp [tupOf, V.pure, V.has]⟩
theorem am_InOrder (l : List Ar) (hl : l.length ≤ 400) : Fn Tryz.prog 47 [.d (arsD l)] (fun v => v = .d (arsD (inO l))) := by
 obtain ⟨n, hn⟩ : ∃ n, l.length = n := ⟨_, rfl⟩
 rw [hn] at hl
 refine Fn.intro (n := 18) ⟨Tryz.func47, rfl, rfl, rfl, rfl⟩ zT8 zT16 fun w0 out => ?_
 apply AW.sr
 refine AL.z ?_
 apply AL.nil
 try simp only [thenS, S.put, enum, List.nil_append, List.cons_append, List.append_nil, Nat.zero_add, Nat.reduceAdd]
 apply AW.sr
 refine AL.z ?_
 apply AL.nil
 try simp only [nd]
 apply AW.seq
 apply AW.sr
 refine AL.z ?_
 apply AL.nil
 try simp only [nd]
 apply AW.block
 refine AW.loop (fun s' => ∃ (i : Nat), i ≤ n ∧ s' = ⟨18, [(0, .d (arsD l)), (3, .d (arsD (inO (l.take i)))), (4, .i i)], [], []⟩) (fun s' => n - s'.nat 4) ⟨_, ?_, 0, by omega, rfl⟩ ?_
 ·exact Less.a0
 rintro s' ⟨i, hi, rfl⟩
 by_cases hlt : i < n
 ·obtain ⟨x, hx⟩ := get_lt hn hlt
  have hsn := inO_snoc hx
  have hil : (inO (l.take i)).length ≤ 400 := by rw [inO_len, List.length_take]; omega
  have hcl := am_placed (inO (l.take i)) x hil
  rw [← hsn] at hcl
  apply AW.seq
  apply AW.sr
  iterate 4 refine AL.z ?_
  apply AL.nil
  try simp only [nd]
  refine AW.condT rfl ?_
  apply AW.skip
  try simp only [thenS]
  apply AW.seq
  apply AW.block
  apply AW.region
  iterate 5 refine AL.z ?_
  refine AL.call (post := ?pc7) rfl (sm_call (args := [_, _]) ?hc7 ⟨Tryz.func91, rfl, rfl, rfl, rfl⟩ rfl rfl rfl rfl) ?_
  case hc7 => exact hcl
  rintro _ rfl -
  try dsimp only
  refine AL.z ?_
  apply AL.nil
  try simp only [nd, setL, V.cs, nz, Nat.reduceAdd, nm, ns]
  apply AW.region
  iterate 3 refine AL.z ?_
  apply AL.nil
  try simp only [nd]
  refine ⟨_, ?_, ⟨i + 1, by omega, rfl⟩, ?_⟩
  ·exact Less.a0
  simp [S.nat, fnd]; omega
 rw [List.take_of_length_le zT15]
 apply AW.seq
 apply AW.sr
 iterate 4 refine AL.z ?_
 apply AL.nil
 try simp only [nd]
 refine AW.condF rfl ?_
 refine AW.exit ?_
 try simp only [thenS, inBlockS, ↓reduceIte, Nat.reduceEqDiff]
 apply AW.sr
 iterate 2 refine AL.z ?_
 apply AL.nil
 try simp only [nd]
 apply AW.ret
 exact ⟨[_], ⟨rfl, trivial⟩, rfl, by simp [tupOf, V.pure, V.has]⟩
theorem am_Arranged0 (m : Mach) : Fn Tryz.prog 21 [mV m, .i 0] (fun v => resP (machE m) (resM inO m) v) := by
 by_cases h0 : machE m = 0
 ·have hz := machE_zero h0
  have hR : resM inO m = ⟨m.start, m.states.map fun s => ⟨s.fin, inO s.arcs⟩⟩ := by unfold resM; rw [if_pos h0]
  rw [hR, h0]
  refine Fn.mach m 0 rfl fun hb hal => ?_
  obtain ⟨st, sts⟩ := m
  simp only at hb hal hz
  obtain ⟨n, hn⟩ : ∃ n, sts.length = n := ⟨_, rfl⟩
  rw [hn] at hb
  refine Fn.intro (n := 62) ⟨Tryz.func21, rfl, rfl, rfl, rfl⟩ zT8 zT16 fun w0 out => ?_
  apply AW.sr
  refine AL.sm rfl (sm_box 2 rfl rfl rfl rfl rfl) ?_
  refine AL.sm rfl (sm_alloc (l := [.d (.p (.int .i64 0)), .d (.p (.slice none 0 0))]) 4 inf24 rfl rfl rfl rfl) ?_
  refine AL.z ?_
  apply AL.nil
  try simp only [nd, setL, V.cs, nz, Nat.reduceAdd, nm, ns, enum]
  apply AW.sr
  refine AL.z ?_
  refine AL.call (post := ?pc8) rfl (sm_call (args := [_]) ?hc8 ⟨Tryz.func30, rfl, rfl, rfl, rfl⟩ rfl rfl rfl rfl) ?_
  case hc8 => exact Fn.eqi (am_Fault ⟨st, sts⟩) h0
  rintro _ rfl -
  try dsimp only
  refine AL.z ?_
  apply AL.nil
  try simp only [nd, setL, V.cs, nz, Nat.reduceAdd, nm, ns]
  apply AW.seq
  apply AW.sr
  iterate 2 refine AL.z ?_
  apply AL.nil
  try simp only [nd]
  refine AW.condF rfl ?_
  apply AW.skip
  try simp only [thenS]
  apply AW.sr
  iterate 2 refine AL.z ?_
  refine AL.rp rfl rfl (rp_build (vs := [(0, _)]) (zs := [.d (.p (.int .i64 0)), .d (.p (.slice none 0 0))]) pl24 inf24 rfl rfl rfl rfl) ?_
  refine AL.sm rfl (sm_alloc (l := [.d (.p (.int .i64 0)), .d (.p (.slice none 0 0))]) 7 inf24 rfl rfl rfl rfl) ?_
  refine AL.y ?_
  apply AL.nil
  try simp only [nd, setL, V.cs, nz, Nat.reduceAdd, nm, ns]
  apply AW.seq
  apply AW.seq
  refine AW.adoptH 7 1 901 2 35 rfl rfl rfl zT4 ?_
  apply AW.region
  refine AL.z ?_
  apply AL.nil
  try simp only [nd]
  apply AW.block
  refine AW.loop (fun s' => ∃ (k : Nat) (P : List St), k ≤ n ∧ P = (sts.take k).map (fun s => ⟨s.fin, inO s.arcs⟩) ∧ P.length = k ∧ s' = ⟨62, [(1, .i 0), (2, .ref 2 0), (4, .ref 4 0), (7, .ref 7 0), (8, .i k)], [(2, ⟨24, [.i st, .d (stsD sts)], false, 0⟩), (4, ⟨24, [.i 0, .nil], false, 0⟩), (7, ⟨24, [.i st, .own 901 2 k (decide (k = 0))], false, 0⟩), (901, ⟨35, P.flatMap stV2, decide (k = 0), 2⟩)], []⟩) (fun s' => n - s'.nat 8) ⟨_, ?_, 0, [], by omega, rfl, rfl, rfl⟩ ?_
  ·exact Less.a0
  rintro s' ⟨k, P, hk, hP, hPl, rfl⟩
  have hfl : (P.flatMap stV2).length = k * 2 := by rw [flat_len (sz := 2) (fun _ => rfl), hPl]
  by_cases hlt : k < n
  ·obtain ⟨x, hx⟩ := get_lt hn hlt
   have hxm := List.mem_of_getElem? hx
   have hxl := arc_le hxm
   have hx4 : x.arcs.length ≤ 400 := by omega
   have hsn := take_snoc hx
   apply AW.seq
   apply AW.sr
   iterate 5 refine AL.z ?_
   apply AL.nil
   try simp only [nd]
   refine AW.condT rfl ?_
   apply AW.skip
   try simp only [thenS]
   apply AW.seq
   apply AW.block
   apply AW.sr
   iterate 6 refine AL.z ?_
   refine AL.call (post := ?pc9) rfl (sm_call (args := [_]) ?hc9 ⟨Tryz.func47, rfl, rfl, rfl, rfl⟩ rfl rfl rfl rfl) ?_
   case hc9 => exact am_InOrder x.arcs hx4
   rintro _ rfl -
   try dsimp only
   refine AL.z ?_
   apply AL.nil
   try simp only [nd, setL, V.cs, nz, Nat.reduceAdd, nm, ns]
   apply AW.seq
   apply AW.sr
   iterate 2 refine AL.z ?_
   apply AL.nil
   try simp only [nd]
   refine AW.condF rfl ?_
   apply AW.skip
   try simp only [thenS]
   apply AW.seq
   apply AW.sr
   iterate 2 refine AL.z ?_
   apply AL.nil
   try simp only [nd]
   refine AW.condF rfl ?_
   apply AW.skip
   try simp only [thenS]
   refine AW.draw [(0, true), (1, true), (2, true), (3, true), (4, true), (5, true), (6, true), (7, true), (8, true), (9, true), (10, false), (11, false), (12, false), (13, false)] (fun i => !([11, 12, 13] : List Nat).contains i) 14 zT12 zT12 rfl zT12 ?_
   iterate 9 refine AD1.z ?_
   refine AD1.rp rfl rfl rfl (fun _ _ h => h) (rp_build (vs := [(0, _), (1, _)]) (zs := [.d (.p (.int .i64 0)), .d (.p (.slice none 0 0))]) pl35 inf35 rfl rfl rfl rfl) ?_
   refine AD1.go ?_
   refine AD2.sm rfl rfl (sm_slice (vs := [(0, _)]) (zs := [.d (.p (.int .i64 0)), .d (.p (.slice none 0 0))]) 58 Tryz.underlying22 inf35 rfl rfl zT14 zT14 zT14 rfl rfl rfl rfl zT1 rfl rfl) ?_
   refine AD2.go ?_
   refine AD3.st rfl rfl rfl (st_appendF Tryz.underlying22 inf35 rfl zT14 rfl rfl rfl rfl rfl rfl zT5 zT1 rfl rfl rfl rfl rfl rfl rfl zT14 zT15 zT15 rfl) ?_
   simp only [S.forget, S.put, S.newObj, junkIf, V.has, V.hasL, nh, hasL_flat, hasL_append, List.map_cons, List.map_nil, List.filter_cons, List.filter_nil, Nat.reduceBNe, Nat.reduceBEq, eq_self, bne_self_eq_false,  Bool.not_true, Bool.not_false, Bool.or_false, Bool.or_true, Bool.false_or, Bool.true_or, if_true, if_false, Bool.false_eq_true, ite_true, ite_false, ↓reduceIte, beq_self_eq_true, Nat.reduceEqDiff]
   refine AD3.rp1 rfl rfl rfl rfl (rp_field_ref Tryz.underlying24 rfl rfl rfl inf22 zT14 rfl) ?_
   (refine AD3.st rfl rfl rfl (st_store inf22 rfl rfl rfl rfl rfl rfl rfl zT7 rfl) ?_)
   refine AD3.nil ?_
   try simp only [nd, setL, V.cs, nz, Nat.reduceAdd, nm, ns]
   apply AW.region
   iterate 3 refine AL.z ?_
   apply AL.nil
   try simp only [nd]
   refine ⟨_, ?_, ⟨k + 1, P ++ [⟨x.fin, inO x.arcs⟩], by omega, by rw [hsn, List.map_append, hP]; rfl, by simp [hPl], rfl⟩, ?_⟩
   ·simp only [List.map_append, List.map_cons, List.map_nil, List.flatMap_append, List.flatMap_cons, List.flatMap_nil, List.append_nil]
    exact Less.a0
   simp [S.nat, fnd]; omega
  obtain rfl : k = n := by omega
  rw [List.take_of_length_le zT15] at hP
  apply AW.seq
  apply AW.sr
  iterate 5 refine AL.z ?_
  apply AL.nil
  try simp only [nd]
  refine AW.condF rfl ?_
  refine AW.exit ?_
  try simp only [thenS, inBlockS, ↓reduceIte, Nat.reduceEqDiff]
  apply AW.seq
  refine AW.freezeH 7 1 32 (P.map stD) rfl rfl rfl zT14 rfl rfl (by rw [List.length_map, hPl]) zT15 (rowsF (enc := stD) (sz := 2) (l := P) (fun _ => rfl) rfl) ?_
  apply AW.region
  refine AL.z ?_
  refine AL.y ?_
  refine AL.z ?_
  apply AL.nil
  try simp only [nd, setL, V.cs, nz, Nat.reduceAdd, nm, ns]
  apply AW.ret
  exact ⟨[_, _], ⟨⟨4, 0, _, _, rfl, rfl, rfl, Tryz.underlying24, .inr ⟨rfl, _, _, _, _, inf24, rfl, rfl, rfl⟩⟩, rfl, trivial⟩, .inr ⟨rfl, by rw [hP]; rfl⟩, by simp [tupOf, V.pure, V.has, V.hasL]⟩
 obtain ⟨e, he⟩ : ∃ e, machE m = e := ⟨_, rfl⟩
 rw [he]
 rw [he] at h0
 obtain ⟨⟨st, sts⟩, rfl⟩ : ∃ m', m' = m := ⟨m, rfl⟩
 refine Fn.intro (n := 62) ⟨Tryz.func21, rfl, rfl, rfl, rfl⟩ zT8 zT16 fun w0 out => ?_
 apply AW.sr
 refine AL.sm rfl (sm_box 2 rfl rfl rfl rfl rfl) ?_
 refine AL.sm rfl (sm_alloc (l := [.d (.p (.int .i64 0)), .d (.p (.slice none 0 0))]) 4 inf24 rfl rfl rfl rfl) ?_
 refine AL.z ?_
 apply AL.nil
 try simp only [nd, setL, V.cs, nz, Nat.reduceAdd, nm, ns, enum]
 apply AW.sr
 refine AL.z ?_
 refine AL.call (post := ?pc10) rfl (sm_call (args := [_]) ?hc10 ⟨Tryz.func30, rfl, rfl, rfl, rfl⟩ rfl rfl rfl rfl) ?_
 case hc10 => exact Fn.eqi (am_Fault ⟨st, sts⟩) he
 rintro _ rfl -
 try dsimp only
 refine AL.z ?_
 apply AL.nil
 try simp only [nd, setL, V.cs, nz, Nat.reduceAdd, nm, ns]
 apply AW.seq
 apply AW.sr
 iterate 2 refine AL.z ?_
 apply AL.nil
 try simp only [nd]
 refine AW.condT rfl ?_
 apply AW.sr
 refine AL.rp rfl rfl (rp_build (vs := []) (zs := [.d (.p (.int .i64 0)), .d (.p (.slice none 0 0))]) pl24 inf24 rfl rfl rfl rfl) ?_
 refine AL.z ?_
 refine AL.y ?_
 refine AL.z ?_
 apply AL.nil
 try simp only [nd, setL, V.cs, nz, Nat.reduceAdd, nm, ns]
 apply AW.ret
 exact ⟨[_, _], ⟨⟨4, 0, _, _, rfl, rfl, rfl, Tryz.underlying24, .inr ⟨rfl, _, _, _, _, inf24, rfl, rfl, rfl⟩⟩, rfl, trivial⟩, .inl ⟨h0, rfl⟩, by simp [tupOf, V.pure, V.has, V.hasL]⟩
theorem am_ArrR (m : Mach) : Fn Tryz.prog 21 [mV m, .i 0] (fun v => v = .tup [mV (resM inO m), .i (machE m)]) := (am_Arranged0 m).wkS (resP_wk fun h => by unfold resM; rw [if_neg h])
end Go.Proofs.YthiknkcigcglkaaGreatDoor
