/- Part 9 of what the law SameSames rests on. -/
import Derived.Test.YthiknkcigcglkaaGreatDoorPkSS7
import Derived.Test.YthiknkcigcglkaaGreatDoorPkSS8
namespace Go.Proofs.YthiknkcigcglkaaGreatDoor
open Go.RowKit
open Go.Proofs.Tryz
open Bool (false_eq_true)
open List (all_eq_true append_nil cons_append flatMap_append flatMap_cons flatMap_nil getD_eq_getElem?_getD length_append length_cons length_map length_nil length_take map_append map_cons map_nil mem_append mem_of_getElem? nil_append take_of_length_le)
open Nat (le_refl le_trans reduceAdd zero_add)
set_option linter.unusedSimpArgs false
set_option linter.unusedVariables false
set_option maxRecDepth 100000
set_option maxHeartbeats 8000000
variable {m : zr}
def clA (m : zr) (L : List Bool) (q : Nat) : Prop := (yb m q → L[q]? = some true) ∧ (L[q]? = some true → ∀ p, uQ m q p → L[p]? = some true)
theorem jP5 (h : zn m = 0) : ∀ x, Rch (yb m) (uQ m) x → x < m.states.length := by
 intro x hx; obtain ⟨_, _, _, hz⟩ := xj h
 cases hx with
 | init q h => exact h.2
 | step q p h e =>
  obtain ⟨s, a, h1, h2, h3⟩ := e; have h4 := (hz s (mem_of_getElem? h1)).2 a h2; simp only [xl, decide_eq_true_eq] at h4; omega
theorem j15 (m : zr) : Fn prog 86 [mV m] (fun v => (zn m ≠ 0 ∧ v = .tup [.nil, .i (zn m)]) ∨ (zn m = 0 ∧ v = .tup [.d (y6 (wE m)), .i (zn m)])) := by
 refine qD m 0 rfl fun hb wm => ?_
 by_cases h0 : zn m = 0
 ·have hA : wE m = gj (yb m) (uQ m) m.states.length := by unfold wE; rw [if_pos h0]
  have w3 := jP5 h0; obtain ⟨xZ, vw, xR, hz⟩ := xj h0; obtain ⟨st, sts⟩ := m; simp only at xZ vw xR hz hb wm hA w3; obtain ⟨n, hn⟩ : ∃ n, sts.length = n := ⟨_, rfl⟩; rw [hn] at xZ xR hz hb hA w3; refine qc 67 fun w0 out => ?_; refine qs6 ?_; refine qa (Fn.eqi (wz ⟨st, sts⟩) h0) ?_; refine zQ ?_; refine jN4 ?_; refine x8 ?_
  refine qb (fun s' => ∃ (k : Nat) (L : List Bool), k ≤ n + 1 ∧ Rnd (yb ⟨st, sts⟩) (uQ ⟨st, sts⟩) n k (fun _ => True) L ∧ s' = ⟨67, [(1, .ref 1 0), (5, .i n), (6, .own 19 1 n false), (7, .i k)], [(1, ⟨24, [.i st, .d (zq sts)], false, 0⟩), (19, ⟨4, L.map V.b, false, 1⟩)], []⟩) (fun s' => n + 1 - s'.nat 7) ⟨_, ?_, 0, List.replicate n false, by omega, Rnd.start fun _ => trivial, rfl⟩ ?_
  ·exact q8
  rintro s' ⟨k, L, hk, hR, rfl⟩
  by_cases zk : k ≤ n
  ·skip
   refine vF ?_
   refine qb (fun s' => ∃ (q : Nat) (L : List Bool), q ≤ n ∧ Rnd (yb ⟨st, sts⟩) (uQ ⟨st, sts⟩) n k (fun L => ∀ q', q' < q → clA ⟨st, sts⟩ L q') L ∧ s' = ⟨67, [(1, .ref 1 0), (5, .i n), (6, .own 19 1 n false), (7, .i k), (8, .i q)], [(1, ⟨24, [.i st, .d (zq sts)], false, 0⟩), (19, ⟨4, L.map V.b, false, 1⟩)], []⟩) (fun s' => n - s'.nat 8) ⟨_, ?_, 0, L, by omega, hR.skip fun _ q' h => absurd h zg, rfl⟩ ?_
   ·exact q8
   rintro s' ⟨q, L, hq, hR, rfl⟩
   by_cases hlq : q < n
   ·obtain ⟨x, hx⟩ := zl hn hlq
    obtain ⟨la, xr⟩ : ∃ n, x.arcs.length = n := ⟨_, rfl⟩; have yO := wm x (mem_of_getElem? hx); rw [xr] at yO; refine ve ?_
    refine qn (fun s' => ∃ L : List Bool, Rnd (yb ⟨st, sts⟩) (uQ ⟨st, sts⟩) n k (fun L => (∀ q', q' < q → clA ⟨st, sts⟩ L q') ∧ (yb ⟨st, sts⟩ q → L[q]? = some true)) L ∧ s' = ⟨67, [(1, .ref 1 0), (5, .i n), (6, .own 19 1 n false), (7, .i k), (8, .i q)], [(1, ⟨24, [.i st, .d (zq sts)], false, 0⟩), (19, ⟨4, L.map V.b, false, 1⟩)], []⟩) ?_ ?_
    ·skip
     by_cases hqs : (q : Int) = st
     ·have hlL : q < L.length := by rw [hR.1]; exact hlq
      refine xu ?_; refine qs2 ?_; refine Dv ?_
      refine ⟨_, ?_, L.set q true, hR.set hlq (.inl ⟨hqs.symm, by simp only [hn]; exact hlq⟩) (fun h1 h2 => ⟨h2, fun _ => h1⟩), rfl⟩
      exact q8
     skip; refine xB ?_
     refine ⟨_, ?_, L, hR.skip (fun h => ⟨h, fun h1 => absurd h1.1.symm hqs⟩), rfl⟩
     exact q8
    rintro s' ⟨L, hR, rfl⟩; refine zW ?_
    refine qb (fun s' => ∃ (i : Nat) (L : List Bool), i ≤ la ∧ Rnd (yb ⟨st, sts⟩) (uQ ⟨st, sts⟩) n k (fun L => (∀ q', q' < q → clA ⟨st, sts⟩ L q') ∧ (yb ⟨st, sts⟩ q → L[q]? = some true) ∧ (L[q]? = some true → ∀ (j : Nat) (a : Ar) (p : Nat), j < i → x.arcs[j]? = some a → a.t = (p : Int) → L[p]? = some true)) L ∧ s' = ⟨67, [(1, .ref 1 0), (5, .i n), (6, .own 19 1 n false), (7, .i k), (8, .i q), (9, .i i)], [(1, ⟨24, [.i st, .d (zq sts)], false, 0⟩), (19, ⟨4, L.map V.b, false, 1⟩)], []⟩) (fun s' => la - s'.nat 9) ⟨_, ?_, 0, L, by omega, hR.skip fun h => ⟨h.1, h.2, fun _ j a p h => absurd h zg⟩, rfl⟩ ?_
    ·exact q8
    rintro s' ⟨i, L, hi, hR, rfl⟩; obtain ⟨b, hb⟩ := zl hR.1 hlq
    have fin : (i < la → b = false) → Rnd (yb ⟨st, sts⟩) (uQ ⟨st, sts⟩) n k (fun L => ∀ q', q' < q + 1 → clA ⟨st, sts⟩ L q') L := by
     intro hf; refine ⟨hR.1, hR.2.1, hR.2.2.imp_right (Or.imp_right fun ⟨h0, h1, h2, h3⟩ => ⟨h0, fun q' hq' => ?_⟩)⟩
     by_cases e : q' = q
     ·subst e
      refine ⟨h2, fun ht p he => ?_⟩; obtain ⟨s, a, h4, h5, h6⟩ := he; simp only at h4; rw [hx] at h4; simp only [Option.some.injEq] at h4; subst h4; obtain ⟨j, hj⟩ := List.getElem?_of_mem h5; have vJ : j < la := by rw [← xr]; exact (List.getElem?_eq_some_iff.1 hj).1
      refine h3 ht j a p ?_ hj h6
      by_cases vr : i < la
      ·rw [hb, hf vr] at ht; simp at ht
      omega
     exact h1 q' zg
    by_cases vr : i < la
    ·cases b with
     | true =>
      obtain ⟨y, hy⟩ := zl xr vr; have hyt := (hz x (mem_of_getElem? hx)).2 y (mem_of_getElem? hy); obtain ⟨yi, yo, yw, yt⟩ := y; simp only [xl, decide_eq_true_eq] at hyt; obtain ⟨p, rfl⟩ : ∃ p : Nat, yt = p := ⟨yt.toNat, by omega⟩; have wa : p < n := by omega
      have hlL : p < L.length := by rw [hR.1]; exact wa
      iterate 35 refine Dv ?_
      refine jO6 ?_; refine ⟨_, ?_, ⟨i + 1, L.set p true, by omega, hR.set wa (.inr ⟨q, hb, x, _, hx, mem_of_getElem? hy, rfl⟩) (fun h1 ⟨h2, h3, h4⟩ => ⟨h2, h3, fun h5 j a r hj ha hr => ?_⟩), rfl⟩, ?_⟩
      ·exact q8
      ·grind
      exact zM
     | false =>
      have hR' := fin (fun _ => rfl)
      iterate 25 refine Dv ?_
      refine ⟨_, ?_, ⟨q + 1, L, by omega, hR', rfl⟩, ?_⟩
      ·exact q8
      exact zM
    have hR' := fin (fun h => absurd h vr)
    iterate 25 refine Dv ?_
    refine ⟨_, ?_, ⟨q + 1, L, by omega, hR', rfl⟩, ?_⟩
    ·exact q8
    exact zM
   skip; refine xS ?_; refine ⟨_, ?_, ⟨k + 1, L, by omega, hR.next (fun h => ?_) (fun _ => trivial), rfl⟩, ?_⟩
   ·exact q8
   ·intro y hy hj
    have hyn : y < n := by rw [hR.1] at hy; exact hy
    rcases hj with hj | ⟨z, h1, h2⟩
    ·exact (h y zg).1 hj
    have hzn : z < n := by have := (List.getElem?_eq_some_iff.1 h1).1; rw [hR.1] at this; exact this
    exact (h z zg).2 h1 y h2
   exact zM
  skip; refine qP9 ?_; have hL := hR.done zg w3; refine qk 6 1 (L.map fun b => [.p (.bool b)]) rfl rfl rfl (by rw [length_map, hR.1]) zg (yk rfl) ?_; refine zY ?_; exact ⟨[_, _], zU4, .inr ⟨h0, by rw [h0, hA, ← hL]; rfl⟩, zU0⟩
 obtain ⟨st, sts⟩ := m; obtain ⟨e, he⟩ : ∃ e, zn ⟨st, sts⟩ = e := ⟨_, rfl⟩; rw [he] at h0 ⊢; refine qc 67 fun w0 out => ?_; refine qs6 ?_; refine qa (Fn.eqi (wz ⟨st, sts⟩) he) ?_; refine zQ ?_; refine vF ?_; exact ⟨[_, _], zU4, .inl ⟨h0, rfl⟩, zU0⟩
theorem qI2 (m : zr) (v : V) (h : (zn m ≠ 0 ∧ v = .tup [.nil, .i (zn m)]) ∨ (zn m = 0 ∧ v = .tup [.d (y6 (wE m)), .i (zn m)])) (_ : v.pure) : ∃ v', v' = .tup [.d (y6 (wE m)), .i (zn m)] ∧ v'.pure ∧ WkR v' v := by
 refine ⟨_, rfl, by simp [V.pure, V.has, V.hasL], ?_⟩
 rcases h with ⟨h0, rfl⟩ | ⟨h0, rfl⟩
 ·grind [wE, WkR.nil1]
 exact .one (.refl _)
theorem qx6 (m : zr) : Fn prog 86 [mV m] (fun v => v = .tup [.d (y6 (wE m)), .i (zn m)]) := (j15 m).wk (qI2 m)
theorem qa9 {c : Cx} {s : S} {o : Oper} {t' : TypeId} {x y : Operand} {a b : Ar} (hP : c.P = prog) (ho : o.op = .binOp .neq 47 x y t') (hx : s.ev x = some (.agg ((arD a).map V.d))) (hy : s.ev y = some (.agg ((arD b).map V.d))) (h : a = b) : RP c o s (.b false) := by
 subst h; refine qe6 [.int .i64 a.i, .int .i64 a.o, .int .i64 a.w, .int .i64 a.t] [.int .i64 a.i, .int .i64 a.o, .int .i64 a.w, .int .i64 a.t] ho hx hy (fun w => ?_) (fun w => ?_)
 ·rw [hP]; simp [go_sem]
 rw [hP]; simp [go_sem]
theorem j16 (l : List Ar) : Fn prog 51 [.d (zU l), .d (zU l)] (fun v => v = .b true) := by
 refine Fn.sl 0 rfl fun hb => ?_; obtain ⟨n, hn⟩ : ∃ n, l.length = n := ⟨_, rfl⟩; rw [length_map, hn] at hb; refine qc 26 fun w0 out => ?_; refine yB ?_; refine qb (fun s' => ∃ k : Nat, k ≤ n ∧ s' = ⟨26, [(0, .d (zU l)), (1, .d (zU l)), (5, .i k)], [], []⟩) (fun s' => n - s'.nat 5) ⟨_, ?_, 0, by omega, rfl⟩ ?_
 ·exact q8
 rintro s' ⟨k, hk, rfl⟩
 by_cases zk : k < n
 ·obtain ⟨x, hx⟩ := zl hn zk
  refine xu ?_; refine W22 ?_; refine xB ?_; refine qw rfl rfl rfl (fun _ _ h => h) (qa9 rfl rfl rfl rfl (by first | assumption | rfl)) ?_; refine W44 ?_; refine ⟨_, ?_, ⟨k + 1, by omega, rfl⟩, ?_⟩
  ·exact q8
  exact zM
 skip; refine xS ?_; exact ⟨[_], ⟨rfl, trivial⟩, rfl, zU2⟩
theorem qD1 (m : zr) : Fn prog 23 [mV m, mV m] (fun v => v = .b true) := by
 refine qD m 0 rfl fun hb _ => ?_; obtain ⟨st, sts⟩ := m; obtain ⟨n, hn⟩ : ∃ n, sts.length = n := ⟨_, rfl⟩; simp only [hn] at hb; refine qc 56 fun w0 out => ?_; refine g7 ?_
 iterate 26 refine Dv ?_
 refine qb (fun s' => ∃ k : Nat, k ≤ n ∧ s' = ⟨56, [(2, .ref 2 0), (3, .ref 3 0), (5, .i k)], [(2, ⟨24, [.i st, .d (zq sts)], false, 0⟩), (3, ⟨24, [.i st, .d (zq sts)], false, 0⟩)], []⟩) (fun s' => n - s'.nat 5) ⟨_, ?_, 0, by omega, rfl⟩ ?_
 ·exact q8
 rintro s' ⟨k, hk, rfl⟩
 by_cases zk : k < n
 ·obtain ⟨x, hx⟩ := zl hn zk
  refine wn ?_; apply qg; refine W28 ?_; refine qm ?_
  (refine qR (post := ?pc276) rfl rfl rfl (zS (args := [_, _]) ?hc276 ⟨func51, rfl, rfl, rfl, rfl⟩ rfl rfl rfl rfl) ?_; (case hc276 => (exact j16 _)); rintro _ rfl -; try dsimp only)
  refine jx rfl rfl rfl rfl (qk0 rfl rfl) ?_; refine W94 ?_; refine x8 ?_; refine ⟨_, ?_, ⟨k + 1, by omega, rfl⟩, ?_⟩
  ·exact q8
  exact zM
 skip; refine vF ?_; exact ⟨[_], ⟨rfl, trivial⟩, rfl, zU2⟩
theorem gb (m : zr) : Fn prog 9 [mV m, mV m] (fun v => v = .b true) := by
 refine qc 8 fun w0 out => ?_; refine g7 ?_; refine zC ?_; refine qa (qD1 _) ?_; refine W47 ?_; exact ⟨[_], ⟨rfl, trivial⟩, rfl, zU2⟩
theorem qf8 (l : List Nat) (x : Int) : Fn prog 88 [.d (.sl 1 8 (l.map vp)), .i x] (fun v => v = .i (pl l x)) := by
 refine Fn.sl 0 rfl fun hb => ?_; obtain ⟨n, hn⟩ : ∃ n, l.length = n := ⟨_, rfl⟩; rw [length_map, hn] at hb; refine qc 19 fun w0 out => ?_; refine xB ?_
 refine qb (fun s' => ∃ k : Nat, k ≤ n ∧ (∀ (j z : Nat), j < k → l[j]? = some z → (z : Int) ≠ x) ∧ s' = ⟨19, [(0, .d (.sl 1 8 (l.map vp))), (1, .i x), (5, .i k)], [], []⟩) (fun s' => n - s'.nat 5) ⟨_, ?_, 0, by omega, fun j z h => absurd h zg, rfl⟩ ?_
 ·exact q8
 rintro s' ⟨k, hk, vO, rfl⟩
 by_cases zk : k < n
 ·obtain ⟨y, hy⟩ := zl hn zk
  by_cases he : (y : Int) = x
  ·skip
   iterate 25 refine Dv ?_
   exact ⟨[_], ⟨rfl, trivial⟩, by rw [qC7 l x k y hy he vO]; rfl, zU2⟩
  skip
  iterate 26 refine Dv ?_
  refine ⟨_, ?_, ⟨k + 1, by omega, fun j z hj hz => ?_, rfl⟩, ?_⟩
  ·exact q8
  ·by_cases e : j = k
   ·subst e
    rw [hy] at hz; simp only [Option.some.injEq] at hz; subst hz; exact he
   exact vO j z zg hz
  exact zM
 have hE : pl l x = -1 := qp3 l x fun y hy => by
  obtain ⟨j, hj⟩ := List.getElem?_of_mem hy; exact vO j y (by have := (List.getElem?_eq_some_iff.1 hj).1; omega) hj
 refine xS ?_; exact ⟨[_], ⟨rfl, trivial⟩, by rw [hE]; rfl, zU2⟩
theorem qf9 (h : zn m = 0) : (wE m).length = m.states.length := by unfold wE; rw [if_pos h, qf5]
theorem qm0 (h : zn m = 0) : (yU m).length = m.states.length := by unfold yU; rw [if_pos h, qf5]
theorem qt2 {q : Nat} {a b : Bool} (ha : (wE m)[q]? = some a) (hb : (yU m)[q]? = some b) : gx m q = (a && b) := by simp [gx, List.getD_eq_getElem?_getD, ha, hb]
theorem qq9 (m : zr) : Fn prog 45 [mV m] (fun v => (zn m ≠ 0 ∧ v = .tup [.agg [.i 0, .nil], .i (zn m)]) ∨ (zn m = 0 ∧ v = .tup [mV (x9 m), .i (zn m)])) := by
 refine qD m 0 rfl fun hb wm => ?_
 by_cases h0 : zn m = 0
 ·obtain ⟨hz1, hz2, hz3, hz⟩ := xj h0
  have hT : x9 m = ⟨pl (yV m) m.start, (yV m).map fun q => wq (yV m) (m.states.getD q ⟨0, []⟩)⟩ := by unfold x9; rw [if_pos h0]
  have w5 := qf9 h0; have hBl := qm0 h0; obtain ⟨A, hA⟩ : ∃ A, wE m = A := ⟨_, rfl⟩; obtain ⟨B, hB⟩ : ∃ B, yU m = B := ⟨_, rfl⟩
  have hK : ∀ q a b, A[q]? = some a → B[q]? = some b → gx m q = (a && b) := fun q a b ha hb => qt2 (by rw [hA]; exact ha) (by rw [hB]; exact hb)
  have wZ : yV m = (List.range m.states.length).filter (gx m) := rfl; obtain ⟨K, hKd⟩ : ∃ K, gx m = K := ⟨_, rfl⟩; obtain ⟨kept, hkd⟩ : ∃ kept, yV m = kept := ⟨_, rfl⟩; obtain ⟨T, hTd⟩ : ∃ T, x9 m = T := ⟨_, rfl⟩; rw [hKd] at hK wZ; rw [hkd] at wZ hT; rw [hTd] at hT ⊢; obtain ⟨st, sts⟩ := m; simp only at hz1 hz2 hz3 hz hb wm w5 hBl wZ hT; rw [hA] at w5; rw [hB] at hBl
  obtain ⟨n, hn⟩ : ∃ n, sts.length = n := ⟨_, rfl⟩; rw [hn] at hz1 hz3 hz hb w5 hBl wZ; refine qc 104 fun w0 out => ?_; refine W96 ?_; refine qa (Fn.eqv (qx6 ⟨st, sts⟩) (by rw [hA, h0])) ?_; refine zQ ?_; refine uq ?_; refine qa (Fn.eqv (ji4 ⟨st, sts⟩) (by rw [hB, h0])) ?_; refine zQ ?_; refine q61 ?_; apply qg; refine qB 8 100 1 3 rfl (by simp [S.clean, V.has, V.hasL]) ?_; refine zW ?_
  refine qb (fun s' => ∃ k : Nat, k ≤ n ∧ s' = ⟨104, [(1, .ref 1 0), (2, .ref 2 0), (4, .d (y6 A)), (6, .d (y6 B)), (8, .own 100 1 ((List.range k).filter K).length (decide (((List.range k).filter K).length = 0))), (9, .i k)], [(1, ⟨24, [.i st, .d (zq sts)], false, 0⟩), (2, ⟨24, [.i 0, .nil], false, 0⟩), (100, ⟨3, ((List.range k).filter K).map V.n, decide (((List.range k).filter K).length = 0), 1⟩)], []⟩) (fun s' => n - s'.nat 9) ⟨_, ?_, 0, by omega, rfl⟩ ?_
  ·exact q8
  rintro s' ⟨k, hk, rfl⟩; have hlk := yN K k
  by_cases zk : k < n
  ·obtain ⟨a, ha⟩ := zl w5 zk
   obtain ⟨b, hb'⟩ := zl hBl zk; have hKk := hK k a b ha hb'; have hsk := yy K k
   cases a with
   | true =>
    cases b with
    | true =>
     simp only [hKk, Bool.and_self, if_true] at hsk; refine bK ?_; refine q9 rfl (zN (vs := [(0, _)]) (zs := [.i 0]) 49 underlying42 zz rfl rfl zj zj zj rfl rfl rfl rfl zT0 rfl rfl) ?_; refine W4 ?_; refine x8 ?_; refine ⟨_, ?_, ⟨k + 1, by omega, rfl⟩, ?_⟩
     ·rw [hsk]
      simp only [map_append, map_cons, map_nil, length_append, length_cons, length_nil, zero_add]; exact q8
     exact zM
    | false =>
     simp only [hKk, Bool.and_false, false_eq_true, if_false, append_nil] at hsk
     iterate 31 refine Dv ?_
     refine ⟨_, ?_, ⟨k + 1, by omega, rfl⟩, ?_⟩
     ·rw [hsk]
      exact q8
     exact zM
   | false =>
    simp only [hKk, Bool.false_and, false_eq_true, if_false, append_nil] at hsk
    iterate 31 refine Dv ?_
    refine ⟨_, ?_, ⟨k + 1, by omega, rfl⟩, ?_⟩
    ·rw [hsk]
     exact q8
    exact zM
  obtain rfl : k = n := by omega
  rw [← wZ] at hlk ⊢
  have xU : ∀ q ∈ kept, q < k := by
   intro q hq; rw [wZ] at hq; exact List.mem_range.1 (List.mem_filter.1 hq).1
  obtain ⟨c, hc⟩ : ∃ c, kept.length = c := ⟨_, rfl⟩; rw [hc] at hlk ⊢; refine W53 ?_; refine qk 8 8 (kept.map vp) rfl rfl rfl (by rw [length_map, hc]) zg (yk rfl) ?_; refine AW.less (s' := ⟨104, [(1, .ref 1 0), (2, .ref 2 0), (8, .d (.sl 1 8 (kept.map vp)))], [(1, ⟨24, [.i st, .d (zq sts)], false, 0⟩), (2, ⟨24, [.i 0, .nil], false, 0⟩)], []⟩) q8 ?_
  -- left over: qf8 kept st
  refine zW ?_; refine qa (qf8 kept st) ?_; refine zQ ?_; refine jM3 ?_; refine q34 ?_; refine qq 10 1 101 2 35 rfl rfl rfl zT4 ?_; refine zW ?_
  refine qb (fun s' => ∃ j : Nat, j ≤ c ∧ s' = ⟨104, [(1, .ref 1 0), (2, .ref 2 0), (8, .d (.sl 1 8 (kept.map vp))), (10, .ref 10 0), (11, .i j)], [(1, ⟨24, [.i st, .d (zq sts)], false, 0⟩), (2, ⟨24, [.i 0, .nil], false, 0⟩), (10, ⟨24, [.i (pl kept st), .own 101 2 j (decide (j = 0))], false, 0⟩), (101, ⟨35, (((kept.map fun q => wq kept (sts.getD q ⟨0, []⟩)).take j).flatMap xT), decide (j = 0), 2⟩)], []⟩) (fun s' => c - s'.nat 11) ⟨_, ?_, 0, by omega, rfl⟩ ?_
  ·exact q8
  rintro s' ⟨j, hj, rfl⟩
  have hEl : (kept.map fun q => wq kept (sts.getD q ⟨0, []⟩)).length = c := by simp [hc]
  by_cases hlj : j < c
  ·obtain ⟨q, hq⟩ := zl hc hlj
   have hqk := xU q (mem_of_getElem? hq); obtain ⟨x, hx⟩ := zl hn hqk; have hxe : (kept.map fun q => wq kept (sts.getD q ⟨0, []⟩))[j]? = some (wq kept x) := by simp [hq, getD_eq_getElem?_getD, hx]
   have vl := congrArg (List.flatMap xT) (x5 hxe); rw [flatMap_append, flatMap_cons, flatMap_nil, append_nil] at vl
   have xA : (((kept.map fun q => wq kept (sts.getD q ⟨0, []⟩)).take j).flatMap xT).length = j * 2 := by rw [vh (sz := 2) (fun _ => rfl), length_take]; omega
   obtain ⟨la, xr⟩ : ∃ n, x.arcs.length = n := ⟨_, rfl⟩; have yO := le_trans (yq sts x (mem_of_getElem? hx)) hz2; rw [xr] at yO; refine W60 ?_; refine jL2 ?_; refine qm ?_; refine qI rfl rfl (zp (l := [.i 0, .nil]) 12 xD rfl zT0 rfl rfl) ?_; refine jp8 ?_; refine W10 ?_; refine W81 ?_; apply qg; refine qB 13 102 4 47 rfl (by simp [S.clean, V.has, V.hasL, -List.map_take]) ?_; refine zW ?_
   refine qb (fun s' => ∃ i : Nat, i ≤ la ∧ s' = ⟨104, [(1, .ref 1 0), (2, .ref 2 0), (8, .d (.sl 1 8 (kept.map vp))), (10, .ref 10 0), (11, .i j), (12, .ref 12 0), (13, .own 102 4 ((x.arcs.take i).filterMap (vq kept)).length (decide (((x.arcs.take i).filterMap (vq kept)).length = 0))), (14, .i i)], [(1, ⟨24, [.i st, .d (zq sts)], false, 0⟩), (2, ⟨24, [.i 0, .nil], false, 0⟩), (10, ⟨24, [.i (pl kept st), .own 101 2 j (decide (j = 0))], false, 0⟩), (101, ⟨35, (((kept.map fun q => wq kept (sts.getD q ⟨0, []⟩)).take j).flatMap xT), decide (j = 0), 2⟩), (12, ⟨35, [.i x.fin, .d (zU x.arcs)], false, 0⟩), (102, ⟨47, ((x.arcs.take i).filterMap (vq kept)).flatMap vG, decide (((x.arcs.take i).filterMap (vq kept)).length = 0), 4⟩)], []⟩) (fun s' => la - s'.nat 14) ⟨_, ?_, 0, by omega, rfl⟩ ?_
   ·exact q8
   rintro s' ⟨i, hi, rfl⟩
   have hfm : ((x.arcs.take i).filterMap (vq kept)).length ≤ la := by
    have := List.length_filterMap_le (vq kept) (x.arcs.take i); rw [length_take] at this; omega
   have qg0 : (((x.arcs.take i).filterMap (vq kept)).flatMap vG).length = ((x.arcs.take i).filterMap (vq kept)).length * 4 := vh (sz := 4) (fun _ => rfl)
   by_cases vr : i < la
   ·obtain ⟨y, hy⟩ := zl xr vr
    have uh := bO (vq kept) hy
    by_cases hp : 0 ≤ pl kept y.t
    ·have hty : vq kept y = some ⟨y.i, y.o, y.w, pl kept y.t⟩ := by unfold vq; rw [if_pos hp]
     rw [hty, Option.toList] at uh; refine jO4 ?_; refine zY ?_; refine qa (qf8 kept y.t) ?_; refine q62 ?_; refine q32 ?_; refine ve ?_; refine q9 rfl (zN (vs := [(0, _)]) (zs := [.i 0, .i 0, .i 0, .i 0]) 92 underlying33 zO rfl rfl zj zj zj rfl rfl rfl rfl zT0 rfl rfl) ?_; refine W0 ?_; refine x8 ?_; refine ⟨_, ?_, ⟨i + 1, by omega, rfl⟩, ?_⟩
     ·rw [uh]
      simp only [flatMap_append, flatMap_cons, flatMap_nil, append_nil, length_append, length_cons, length_nil, zero_add]; exact q8
     exact zM
    have hty : vq kept y = none := by unfold vq; rw [if_neg hp]
    rw [hty, Option.toList, append_nil] at uh; refine jO4 ?_; refine zY ?_; refine qa (qf8 kept y.t) ?_; refine q62 ?_; refine q32 ?_; refine xS ?_; refine ⟨_, ?_, ⟨i + 1, by omega, rfl⟩, ?_⟩
    ·rw [uh]
     exact q8
    exact zM
   have wR : x.arcs.take i = x.arcs := take_of_length_le zg; rw [wR] at hfm qg0 ⊢; refine ve ?_; refine qk 13 32 ((x.arcs.filterMap (vq kept)).map arD) rfl rfl rfl (by rw [length_map]) zg (vx (enc := arD) (sz := 4) (l := x.arcs.filterMap (vq kept)) (fun _ => rfl) rfl) ?_
   refine AW.less (s' := ⟨104, [(1, .ref 1 0), (2, .ref 2 0), (8, .d (.sl 1 8 (kept.map vp))), (10, .ref 10 0), (11, .i j), (12, .ref 12 0), (13, .d (zU (x.arcs.filterMap (vq kept))))], [(1, ⟨24, [.i st, .d (zq sts)], false, 0⟩), (2, ⟨24, [.i 0, .nil], false, 0⟩), (10, ⟨24, [.i (pl kept st), .own 101 2 j (decide (j = 0))], false, 0⟩), (101, ⟨35, (((kept.map fun q => wq kept (sts.getD q ⟨0, []⟩)).take j).flatMap xT), decide (j = 0), 2⟩), (12, ⟨35, [.i x.fin, .d (zU x.arcs)], false, 0⟩)], []⟩) q8 ?_
   refine zY ?_; refine qe rfl rfl (xI (vs := [(0, _), (1, _)]) (zs := [.i 0, .nil]) qa2 xD rfl rfl rfl rfl) ?_; refine q9 rfl (zN (vs := [(0, _)]) (zs := [.i 0, .nil]) 100 underlying22 xD rfl rfl zj zj zj rfl rfl rfl rfl zT0 rfl rfl) ?_; refine W2 ?_; refine W39 ?_; refine zY ?_; refine ⟨_, ?_, ⟨j + 1, by omega, rfl⟩, ?_⟩
   ·rw [vl]
    exact q8
   exact zM
  obtain rfl : j = c := by omega
  rw [take_of_length_le zg]; refine q61 ?_; refine qs 10 1 32 ((kept.map fun q => wq kept (sts.getD q ⟨0, []⟩)).map stD) rfl rfl rfl zj rfl rfl (by simp [hc]) zg (vx (enc := stD) (sz := 2) (l := kept.map fun q => wq kept (sts.getD q ⟨0, []⟩)) (fun _ => rfl) rfl) ?_; refine zY ?_; exact ⟨[_, _], zU1, .inr ⟨h0, by rw [hT, h0]; rfl⟩, zU0⟩
 obtain ⟨st, sts⟩ := m; obtain ⟨e, he⟩ : ∃ e, zn ⟨st, sts⟩ = e := ⟨_, rfl⟩; obtain ⟨A, hA⟩ : ∃ A, wE ⟨st, sts⟩ = A := ⟨_, rfl⟩; rw [he] at h0 ⊢; refine qc 104 fun w0 out => ?_; refine W96 ?_; refine qa (Fn.eqv (qx6 ⟨st, sts⟩) (by rw [hA, he])) ?_; refine W93 ?_; refine W14 ?_; exact ⟨[_, _], zU1, .inl ⟨h0, rfl⟩, zU0⟩
theorem ji6 (m : zr) : Fn prog 71 [mV m] (fun v => (zn m ≠ 0 ∧ v = .tup [.nil, .i (zn m)]) ∨ (zn m = 0 ∧ v = .tup [.d (y6 (wE m)), .i (zn m)])) := by
 refine qD m 0 rfl fun hb wm => ?_
 by_cases h0 : zn m = 0
 ·have hA : wE m = gj (yb m) (uQ m) m.states.length := by unfold wE; rw [if_pos h0]
  have w3 := jP5 h0; obtain ⟨xZ, vw, xR, hz⟩ := xj h0; obtain ⟨st, sts⟩ := m; simp only at xZ vw xR hz hb wm hA w3; obtain ⟨n, hn⟩ : ∃ n, sts.length = n := ⟨_, rfl⟩; rw [hn] at xZ xR hz hb hA w3; refine qc 25 fun w0 out => ?_; refine qf2 ?_; refine qa (Fn.eqi (we ⟨st, sts⟩) h0) ?_; refine qk6 ?_; refine qB 5 100 1 3 rfl (by simp [S.clean, V.has, V.hasL]) ?_
  refine qn (fun s' => ∃ F : List Nat, (∀ x, x ∈ F ↔ yb ⟨st, sts⟩ x) ∧ F.length ≤ n ∧ s' = ⟨25, [(1, .ref 1 0), (5, .own 100 1 F.length (decide (F.length = 0)))], [(1, ⟨24, [.i st, .d (zq sts)], false, 0⟩), (100, ⟨3, F.map V.n, decide (F.length = 0), 1⟩)], []⟩) ?_ ?_
  ·skip
   by_cases hs0 : 0 ≤ st
   ·obtain ⟨p, rfl⟩ : ∃ p : Nat, st = p := ⟨st.toNat, by omega⟩
    refine ve ?_; refine q9 rfl (zN (vs := [(0, _)]) (zs := [.i 0]) 17 underlying42 zz rfl rfl zj zj zj rfl rfl rfl rfl rfl rfl rfl) ?_; refine qf rfl (xK underlying42 zz rfl zj rfl rfl rfl rfl rfl rfl zT5 rfl rfl rfl rfl rfl rfl rfl rfl zj zg zg rfl) ?_; refine W29 ?_; refine ⟨_, ?_, [p], ?_, ?_, rfl⟩
    ·exact q8
    ·intro x
     simp [yb, hn]; omega
    simp; omega
   skip; refine x8 ?_; refine ⟨_, ?_, [], ?_, ?_, rfl⟩
   ·exact q8
   ·intro x
    simp [yb]; omega
   simp
  rintro s' ⟨F, hF, hFn, rfl⟩; obtain ⟨f, hf⟩ : ∃ f, decide (F.length = 0) = f := ⟨_, rfl⟩; rw [hf]; have hFf : f = true → F = [] := by intro h; subst h; simpa using hf
  refine zC ?_; refine qe rfl rfl (un (vs := [_]) rfl rfl) ?_; refine AL.inline [] (ts := []) (ars := [_, _, _]) rfl rfl ⟨func103, rfl, rfl, rfl, rfl⟩ rfl rfl rfl zx rfl fun kx => ?_; refine jN3 ?_; refine q9 rfl (vg 13 V.b (false) underlying51 qa1 rfl rfl rfl rfl rfl zg zj zT0 rfl) ?_; refine q9 rfl (zp (l := [.nil]) 7 q42 rfl zT0 rfl rfl) ?_
  refine qf rfl (vA q42 rfl rfl rfl rfl rfl rfl rfl zT7 rfl) ?_; refine xd ?_; refine q9 rfl (zp (l := [.nil]) 8 u9 rfl zT0 rfl rfl) ?_; refine qf rfl (vA u9 rfl rfl rfl rfl rfl rfl rfl zT7 rfl) ?_; refine xB ?_
  refine qb (fun s' => ∃ (k : Nat) (L : List Bool), k ≤ F.length ∧ L.length = n ∧ (∀ x, L[x]? = some true ↔ x ∈ F.take k) ∧ s' = ⟨44, [(2, .fn 104 [.ref 1 0]), (7, .ref 7 0), (8, .ref 8 0), (15, .own 100 1 F.length f), (16, .i F.length), (17, .i k)], [(1, ⟨24, [.i st, .d (zq sts)], false, 0⟩), (100, ⟨3, F.map V.n, f, 1⟩), (7, ⟨51, [.own 13 1 n false], false, 0⟩), (8, ⟨42, [.own 100 1 F.length f], false, 0⟩), (13, ⟨4, L.map V.b, false, 1⟩)], []⟩) (fun s' => F.length - s'.nat 17) ⟨_, ?_, 0, List.replicate n false, by omega, by simp, by simp [List.getElem?_replicate], rfl⟩ ?_
  ·exact q8
  rintro s' ⟨k, L, hk, hL, hLF, rfl⟩
  by_cases zk : k < F.length
  ·obtain ⟨q, hq⟩ := zl rfl zk
   obtain rfl : f = false := by cases f with | false => rfl | true => rw [hFf rfl] at zk; simp at zk
   have hqn : q < n := by have := ((hF q).1 (mem_of_getElem? hq)).2; simpa [hn] using this
   have hqL : q < L.length := by omega
   refine jq2 ?_; refine zC ?_; refine ⟨_, ?_, ⟨k + 1, L.set q true, by omega, by simpa using hL, fun x => ?_, rfl⟩, ?_⟩
   ·exact q8
   ·rw [List.getElem?_set, x5 hq, mem_append, ← hLF x]
    by_cases e : q = x
    ·subst e; simp [hqL]
    simp [e, Ne.symm e]
   exact zM
  rw [take_of_length_le zg] at hLF
  have jt0 : Fld (yb ⟨st, sts⟩) (uQ ⟨st, sts⟩) n (fun _ => False) L F := Fld.start hL hLF (fun x hx => (hF x).1 hx)
  have hLi : ∀ x, yb ⟨st, sts⟩ x → L[x]? = some true := fun x hx => (hLF x).2 ((hF x).2 hx)
  clear hLF; refine xB ?_
  refine qF (fun μ s' => ∃ (L : List Bool) (todo : List Nat), μ ≤ 300 ∧ 2 * L.count false + todo.length ≤ μ ∧ (f = true → todo = []) ∧ Fld (yb ⟨st, sts⟩) (uQ ⟨st, sts⟩) n (fun _ => False) L todo ∧ (∀ x, yb ⟨st, sts⟩ x → L[x]? = some true) ∧ s' = ⟨44, [(2, .fn 104 [.ref 1 0]), (7, .ref 7 0), (8, .ref 8 0)], [(1, ⟨24, [.i st, .d (zq sts)], false, 0⟩), (100, ⟨3, todo.map V.n, f, 1⟩), (7, ⟨51, [.own 13 1 n false], false, 0⟩), (8, ⟨42, [.own 100 1 todo.length f], false, 0⟩), (13, ⟨4, L.map V.b, false, 1⟩)], []⟩) ⟨_, _, ?_, L, F, by have := List.count_le_length (l := L) (a := false); omega, le_refl _, hFf, jt0, hLi, rfl⟩ ?_
  ·exact q8
  rintro μ s' ⟨L, todo, hμ3, hμ, hft, xA, hLi, rfl⟩
  rcases List.eq_nil_or_concat todo with qg1 | ⟨T, q, hTq⟩
  ·have hz0 : ¬ 0 < todo.length := by simp [qg1]
   have hL := xA.done qg1 (fun _ h => h) hLi w3
   refine xS ?_
   try simp only [wY, ug, ↓reduceIte, Nat.reduceEqDiff]
   refine ⟨[_], ⟨rfl, trivial⟩, ?_⟩; refine jL8 ?_; refine qk 2 1 (L.map fun b => [.p (.bool b)]) rfl rfl rfl (by rw [length_map, xA.len]) zg (yk rfl) ?_; apply qM; exact ⟨[_, _], zU4, .inr ⟨h0, by rw [h0, hA, ← hL]; rfl⟩, zU0⟩
  rw [List.concat_eq_append] at hTq; subst hTq; obtain rfl : f = false := by cases f with | false => rfl | true => simp at hft
  obtain ⟨t, ht⟩ : ∃ t, T.length = t := ⟨_, rfl⟩; have zI : (T ++ [q]).length = t + 1 := by simp [ht]
  rw [zI] at hμ ⊢; have jX3 : (T ++ [q])[t]? = some q := by simp [← ht]
  obtain ⟨hqL, xA⟩ := xA.take; have hqn : q < n := by have := (List.getElem?_eq_some_iff.1 hqL).1; rw [xA.len] at this; exact this
  have hLs : L.length = n := xA.len; have hcf : L.count false ≤ n := by rw [← hLs]; exact List.count_le_length
  obtain ⟨x, hx⟩ := zl hn hqn; obtain ⟨la, xr⟩ : ∃ n, x.arcs.length = n := ⟨_, rfl⟩; have yO := wm x (mem_of_getElem? hx); refine vF ?_; refine qe rfl rfl (vj (k := t) underlying42 zz rfl rfl rfl zg zg) ?_; refine xB ?_; refine AL.rd rfl rfl (bb (k := t) underlying42 zz rfl rfl rfl zg zg) ?_; refine W74 ?_; refine jA 100 (T.map V.n) rfl ⟨[V.n q], by simp⟩ ?_; refine xd ?_
  refine qe rfl rfl (un (vs := [_, _]) rfl rfl) ?_; refine AL.inline [2, 7, 8] (ts := [_, _, _]) (ars := [_, _]) rfl rfl ⟨func104, rfl, rfl, rfl, rfl⟩ rfl rfl rfl zx rfl fun kx => ?_
  try simp only [wY, S.put, vV, nil_append, cons_append, append_nil, zero_add, reduceAdd]
  refine xu ?_
  refine qb (fun s' => ∃ (i : Nat) (L : List Bool) (T : List Nat), i ≤ la ∧ 2 * L.count false + T.length < μ ∧ Fld (yb ⟨st, sts⟩) (uQ ⟨st, sts⟩) n (fun x => x = q) L T ∧ L[q]? = some true ∧ (∀ x, yb ⟨st, sts⟩ x → L[x]? = some true) ∧ (∀ (j : Nat) (a : Ar) (p : Nat), j < i → x.arcs[j]? = some a → a.t = (p : Int) → L[p]? = some true) ∧ s' = ⟨23, [(1, .fn 122 [.ref 7 0, .ref 8 0]), (12, .d (zU x.arcs)), (13, .i la), (14, .i i)], [(1, ⟨24, [.i st, .d (zq sts)], false, 0⟩), (100, ⟨3, T.map V.n, false, 1⟩), (7, ⟨51, [.own 13 1 n false], false, 0⟩), (8, ⟨42, [.own 100 1 T.length false], false, 0⟩), (13, ⟨4, L.map V.b, false, 1⟩)], [.fn 104 [.ref 1 0], .ref 7 0, .ref 8 0]⟩) (fun s' => la - s'.nat 14) ⟨_, ?_, 0, L, T, by omega, by omega, xA, hqL, hLi, fun j a p h => absurd h zg, rfl⟩ ?_
  ·rw [ht]; exact q8
  rintro s' ⟨i, L, T, hi, hμ', xA, hqL, hLi, yS, rfl⟩
  by_cases vr : i < la
  ·obtain ⟨y, hy⟩ := zl xr vr
   have hyt := (hz x (mem_of_getElem? hx)).2 y (mem_of_getElem? hy); obtain ⟨yi, yo, yw, yt⟩ := y; simp only [xl, decide_eq_true_eq] at hyt; obtain ⟨p, rfl⟩ : ∃ p : Nat, yt = p := ⟨yt.toNat, by omega⟩; have wa : p < n := by omega
   have hLs : L.length = n := xA.len; obtain ⟨b, hb⟩ := zl hLs wa; have wl : p < L.length := by omega
   have q47 : uQ ⟨st, sts⟩ q p := ⟨x, _, hx, mem_of_getElem? hy, rfl⟩
   have vY : ∀ L' : List Bool, (∀ z : Nat, L[z]? = some true → L'[z]? = some true) → L'[p]? = some true → ∀ (j : Nat) (a : Ar) (r : Nat), j < i + 1 → x.arcs[j]? = some a → a.t = (r : Int) → L'[r]? = some true := by
    intro L' h1 h2 j a r hj ha hr
    by_cases e : j = i
    ·subst e
     rw [hy] at ha; simp only [Option.some.injEq] at ha; subst ha; simp only at hr; obtain rfl : p = r := by omega
     exact h2
    exact h1 r (yS j a r zg ha hr)
   refine xu ?_; refine q9 rfl (zp (l := [.i 0, .i 0, .i 0, .i 0]) 6 zO rfl zT0 rfl rfl) ?_; refine zY ?_; refine AL.inline [1, 12, 13, 14] (ts := [_, _, _, _]) (ars := [_]) rfl rfl ⟨func122, rfl, rfl, rfl, rfl⟩ rfl rfl rfl zx rfl fun kx => ?_; refine jN2 ?_
   cases b with
   | true =>
    refine zR ?_; refine ⟨[], trivial, ?_⟩; refine W20 ?_; refine ⟨_, ?_, ⟨i + 1, L, T, by omega, hμ', xA, hqL, hLi, vY L (fun _ h => h) hb, rfl⟩, ?_⟩
    ·exact q8
    exact zM
   | false =>
    have hc := q18 L hb; refine jq1 ?_; refine W88 ?_; refine W4 ?_; refine W74 ?_; refine ⟨[], trivial, ?_⟩; refine W20 ?_; refine ⟨_, ?_, ⟨i + 1, L.set p true, T ++ [p], by omega, by simp; omega, xA.push hqL q47 hb, yh hqL, fun z hz => yh (hLi z hz), vY _ (fun _ h => yh h) (by rw [List.getElem?_set_self wl]), rfl⟩, ?_⟩
    ·simp only [map_append, map_cons, map_nil, length_append, length_cons, length_nil, zero_add]
     exact q8
    exact zM
  skip; refine zY ?_; refine ⟨[], trivial, ?_⟩; refine jM0 ?_; refine ⟨_, _, ?_, ⟨L, T, ?_, le_refl _, by simp, xA.settle (fun p he hp => ?_), hLi, rfl⟩, hμ'⟩
  ·exact q8
  ·omega
  obtain ⟨s, a, h4, h5, h6⟩ := he; simp only at h4; rw [hx] at h4; simp only [Option.some.injEq] at h4; subst h4; obtain ⟨j, hj⟩ := List.getElem?_of_mem h5; have vJ : j < la := by rw [← xr]; exact (List.getElem?_eq_some_iff.1 hj).1
  exact yS j a p zg hj h6
 obtain ⟨st, sts⟩ := m; obtain ⟨e, he⟩ : ∃ e, zn ⟨st, sts⟩ = e := ⟨_, rfl⟩; rw [he] at h0 ⊢; refine qc 25 fun w0 out => ?_; refine qf2 ?_; refine qa (Fn.eqi (we ⟨st, sts⟩) he) ?_; refine W93 ?_; exact ⟨[_, _], zU4, .inl ⟨h0, rfl⟩, zU0⟩
theorem qt3 (m : zr) : Fn prog 71 [mV m] (fun v => v = .tup [.d (y6 (wE m)), .i (zn m)]) := (ji6 m).wk (qI2 m)
theorem qm1 (x : Nat) (h : x = big) : Fn prog 55 [.i (x : Int)] (fun v => v = .tup [.i ((1000000001 : Nat) : Int), .i 0]) := by
 have gI := yz; refine qc 9 fun w0 out => ?_; refine uq ?_; exact ⟨[_, _], zU4, rfl, zU0⟩
theorem qm2 (x : Nat) (h : x ≠ big) (h2 : 1000000000 < x) : Fn prog 55 [.i (x : Int)] (fun v => v = .tup [.i 0, .i 4]) := by
 have gI := yz; refine qc 9 fun w0 out => ?_
 iterate 22 refine Dv ?_
 exact ⟨[_, _], zU4, rfl, zU0⟩
theorem qx7 (x : Nat) (h : x ≠ big) (h2 : x ≤ 1000000000) : Fn prog 55 [.i (x : Int)] (fun v => v = .tup [.i (x : Int), .i 0]) := by
 have gI := yz; refine qc 9 fun w0 out => ?_; refine gC ?_; exact ⟨[_, _], zU4, rfl, zU0⟩
theorem jt1 (L : List Nat) (n : Nat) (hL : L.length = n) (hn : n ≤ 60) : Fn prog 90 [.d (yl L)] (js9 L) := by
 have gI := yz; refine qc 30 fun w0 out => ?_; refine x8 ?_; refine q63 ?_; refine qB 4 100 1 3 rfl (by simp [S.clean, V.has, V.hasL]) ?_; refine zW ?_
 refine qb (fun s' => ∃ (k : Nat) (A : List Nat), k ≤ n ∧ A = (L.take k).map vL ∧ (∀ j x : Nat, j < k → L[j]? = some x → okD x = true) ∧ s' = ⟨30, [(0, .d (yl L)), (4, .own 100 1 k (decide (k = 0))), (5, .i k)], [(100, ⟨3, A.map V.n, decide (k = 0), 1⟩)], []⟩) (fun s' => n - s'.nat 5) ⟨_, ?_, 0, [], by omega, by simp, (fun j x h => absurd h zg), rfl⟩ ?_
 ·exact q8
 rintro s' ⟨k, A, hk, hA, x6, rfl⟩
 by_cases zk : k < n
 ·obtain ⟨x, hx⟩ := zl hL zk
  have vl := congrArg (List.map vL) (x5 hx); rw [map_append, map_cons, map_nil] at vl; rw [← hA] at vl; have xA : (A.map V.n).length = k * 1 := by rw [hA]; simp; omega
  have qS7 : okD x = true → ∀ j z : Nat, j < k + 1 → L[j]? = some z → okD z = true := by grind
  by_cases hb : x = big
  ·rw [show vL x = 1000000001 by simp [vL, hb]] at vl
   refine yW ?_; refine qa (qm1 x hb) ?_; refine jN7 ?_; refine W4 ?_; refine x8 ?_; refine ⟨_, ?_, ⟨k + 1, A ++ [1000000001], by omega, vl.symm, qS7 (by simp [okD, hb]), rfl⟩, ?_⟩
   ·simp only [map_append, map_cons, map_nil]
    exact q8
   exact zM
  by_cases hov : 1000000000 < x
  ·have xE : L.all okD = false := qc4 hx (by simp [okD, hb]; omega)
   refine yW ?_; refine qa (qm2 x hb hov) ?_; refine zQ ?_; refine yB ?_; exact ⟨[_, _], zU4, .inr ⟨xE, rfl⟩, zU0⟩
  rw [show vL x = x by simp [vL, hb]] at vl
  refine yW ?_; refine qa (qx7 x hb zg) ?_; refine jN7 ?_; refine W4 ?_; refine x8 ?_; refine ⟨_, ?_, ⟨k + 1, A ++ [x], by omega, vl.symm, qS7 (by simp [okD]; omega), rfl⟩, ?_⟩
  ·simp only [map_append, map_cons, map_nil]
   exact q8
  exact zM
 have xE : L.all okD = true := by grind [all_eq_true, List.getElem?_of_mem, List.getElem?_eq_some_iff]
 rw [take_of_length_le zg] at hA; subst hA; refine q61 ?_; refine qk 4 8 ((L.map vL).map vp) rfl rfl rfl (by simp; omega) zg (yk rfl) ?_; refine zY ?_; exact ⟨[_, _], zU4, .inl ⟨xE, rfl⟩, zU0⟩
end Go.Proofs.YthiknkcigcglkaaGreatDoor
