/- Part 8 of what the law LeastMakes rests on. -/
import Derived.Test.YthiknkcigcglkaaGreatDoorPkLe1
import Derived.Test.YthiknkcigcglkaaGreatDoorPkLe2
import Derived.Test.YthiknkcigcglkaaGreatDoorPkLe3
import Derived.Test.YthiknkcigcglkaaGreatDoorPkLe4
import Derived.Test.YthiknkcigcglkaaGreatDoorPkLe5
import Derived.Test.YthiknkcigcglkaaGreatDoorPkLe6
import Derived.Test.YthiknkcigcglkaaGreatDoorPkLe7
namespace Go.Proofs.YthiknkcigcglkaaGreatDoor
open Go.RowKit
set_option linter.unusedSimpArgs false
set_option linter.unusedVariables false
set_option maxRecDepth 100000
set_option maxHeartbeats 8000000
def dAt (D : List Nat) (q : Nat) : Int := ((D.getD q 0 : Nat) : Int)
theorem dAt_of {D : List Nat} {q d : Nat} (h : D[q]? = some d) : dAt D q = (d : Int) := by simp [dAt, List.getD_eq_getElem?_getD, h]
def pushW (D : List Nat) (q : Nat) (a : Ar) : Int := a.w + (dAt D a.t.toNat - dAt D q)
def pushA (D : List Nat) (q : Nat) (a : Ar) : Ar := ⟨a.i, a.o, pushW D q a, a.t⟩
def pushF (D : List Nat) (q : Nat) (s : St) : Int := if s.fin = 1000000001 then 1000000001 else s.fin - dAt D q
def pushS (D : List Nat) (q : Nat) (s : St) : St := ⟨pushF D q s, s.arcs.map (pushA D q)⟩
def pushL (D : List Nat) : Nat → List St → List St
 | _, [] => []
 | k, s :: l => pushS D k s :: pushL D (k + 1) l
theorem pushL_get {D : List Nat} : ∀ (l : List St) (k j : Nat), (pushL D k l)[j]? = (l[j]?).map (pushS D (k + j))
 | [], k, j => by simp [pushL]
 | s :: l, k, 0 => by simp [pushL]
 | s :: l, k, j + 1 => by
  rw [pushL, List.getElem?_cons_succ, List.getElem?_cons_succ, pushL_get l (k + 1) j, show k + 1 + j = k + (j + 1) by omega]
def pushOk (D : List Nat) (l : List St) : Prop := ∀ q s a, l[q]? = some s → a ∈ s.arcs → pushW D q a ≤ 1000000000
open Classical in
noncomputable def pushE (m : Mach) : Int := if machE m ≠ 0 then machE m else if disE (enD (trimM m)) (trimM m) ≠ 0 then disE (enD (trimM m)) (trimM m) else if pushOk (disL (enD (trimM m)) (trimM m)) (trimM m).states then 0 else 4
noncomputable def pushM (m : Mach) : Mach := if pushE m = 0 then ⟨(trimM m).start, pushL (disL (enD (trimM m)) (trimM m)) 0 (trimM m).states⟩ else ⟨0, []⟩
noncomputable def pushV (m : Mach) : Int := if pushE m = 0 then (if (trimM m).start < 0 then 0 else dAt (disL (enD (trimM m)) (trimM m)) (trimM m).start.toNat) else 0
theorem pushE_mach {m : Mach} (h : machE m ≠ 0) : pushE m = machE m := by unfold pushE; rw [if_pos h]
theorem pushE_dis {m : Mach} (h : machE m = 0) (h1 : disE (enD (trimM m)) (trimM m) ≠ 0) : pushE m = disE (enD (trimM m)) (trimM m) := by unfold pushE; rw [if_neg (by simp [h]), if_pos h1]
theorem pushE_over {m : Mach} {T : Mach} {D : List Nat} (h : machE m = 0) (h1 : disE (enD (trimM m)) (trimM m) = 0) (hT : trimM m = T) (hD : disL (enD T) T = D) {q : Nat} {s : St} {a : Ar} (hs : T.states[q]? = some s) (ha : a ∈ s.arcs) (hw : 1000000000 < pushW D q a) : pushE m = 4 := by
 unfold pushE
 rw [if_neg (by simp [h]), if_neg (by simp [h1]), hT, hD, if_neg (fun hh => by have := hh q s a hs ha; omega)]
theorem pushE_ok {m : Mach} {T : Mach} {D : List Nat} (h : machE m = 0) (h1 : disE (enD (trimM m)) (trimM m) = 0) (hT : trimM m = T) (hD : disL (enD T) T = D) (ho : pushOk D T.states) : pushE m = 0 ∧ pushM m = ⟨T.start, pushL D 0 T.states⟩ ∧ pushV m = if T.start < 0 then 0 else dAt D T.start.toNat := by
 have he : pushE m = 0 := by
  unfold pushE
  rw [if_neg (by simp [h]), if_neg (by simp [h1]), hT, hD, if_pos ho]
 refine ⟨he, ?_, ?_⟩
 ·unfold pushM; rw [if_pos he, hT, hD]
 unfold pushV; rw [if_pos he, hT, hD]
theorem disE_mach {D : List Nat} {m : Mach} (h : disE D m = 0) : machE m = 0 := by
 unfold disE at h
 by_cases h0 : machE m = 0
 ·exact h0
 rw [if_pos h0] at h; exact absurd h h0
theorem disL_facts {m : Mach} (h : disE (enD m) m = 0) : (disL (enD m) m).length = m.states.length ∧ ∀ x ∈ disL (enD m) m, x ≤ 1000000001 := by
 have hall : (enD m).all okD = true := by
  have h0 := disE_mach h
  unfold disE at h
  rw [if_neg (by simp [h0])] at h
  by_cases hh : (enD m).all okD = true
  ·exact hh
  rw [if_neg hh] at h; cases h
 have hL : disL (enD m) m = (enD m).map tell := by unfold disL; rw [if_pos h]
 rw [hL]
 refine ⟨by simp [enD, dstL], fun x hx => ?_⟩
 simp only [List.mem_map] at hx
 obtain ⟨y, hy, rfl⟩ := hx
 have := List.all_eq_true.1 hall y hy
 simp only [okD, decide_eq_true_eq] at this
 unfold tell
 split <;> omega
theorem rep_tup3 {u u' v y : V} (h : ∀ w q g x, VRep w q g u x → VRep w q g u' x) : ∀ w q g x, VRep w q g (.tup [u, v, y]) x → VRep w q g (.tup [u', v, y]) x := by
 intro w q g x hx
 cases hx with
 | tup _ cs hl hh =>
  refine .tup _ cs hl fun j a z hy hz => ?_
  match j, hy with
  | 0, hy => simp at hy; subst hy; exact h _ _ _ _ (hh 0 u z rfl hz)
  | 1, hy => exact hh 1 a z hy hz
  | 2, hy => exact hh 2 a z hy hz
  | n + 3, hy => simp at hy
/-- Either an error with nothing, or the machine and a number. -/
def resQ (e : Int) (M : Mach) (x : Int) (v : V) : Prop := e ≠ 0 ∧ v = .tup [.agg [.i 0, .nil], .i 0, .i e] ∨ e = 0 ∧ v = .tup [mV M, .i x, .i 0]
theorem resQ_wk {e x : Int} {M : Mach} (hM : e ≠ 0 → M = ⟨0, []⟩ ∧ x = 0) (v : V) (h : resQ e M x v) (_ : v.pure) : ∃ v', v' = .tup [mV M, .i x, .i e] ∧ v'.pure ∧ ∀ w q g x, VRep w q g v x → VRep w q g v' x := by
 refine ⟨_, rfl, by simp [V.pure, V.has, V.hasL], ?_⟩
 rcases h with ⟨h0, rfl⟩ | ⟨h0, rfl⟩
 ·obtain ⟨h1, h2⟩ := hM h0
  rw [h1, h2]
  exact rep_tup3 (rep_zeroM 0)
 rw [h0]
 exact fun _ _ _ _ h => h
theorem push_none {m : Mach} (h : pushE m ≠ 0) : pushM m = ⟨0, []⟩ ∧ pushV m = 0 := ⟨by unfold pushM; rw [if_neg h], by unfold pushV; rw [if_neg h]⟩
theorem pushW_get {D : List Nat} {q p d e : Nat} {i o w : Int} (h : D[p]? = some d) (h2 : D[q]? = some e) : pushW D q ⟨i, o, w, p⟩ = w + ((d : Int) - (e : Int)) := by
 unfold pushW
 rw [dAt_of h2]
 simp only [Int.toNat_natCast]
 rw [dAt_of h]
theorem pushA_get {D : List Nat} {q p d e : Nat} {i o w : Int} (h : D[p]? = some d) (h2 : D[q]? = some e) : pushA D q ⟨i, o, w, p⟩ = ⟨i, o, w + ((d : Int) - (e : Int)), p⟩ := by
 unfold pushA; rw [pushW_get h h2]
theorem pushF_inf {D : List Nat} {q : Nat} {s : St} (h : s.fin = 1000000001) : pushF D q s = 1000000001 := by unfold pushF; rw [if_pos h]
theorem pushF_get {D : List Nat} {q d : Nat} {s : St} (h : s.fin ≠ 1000000001) (h2 : D[q]? = some d) : pushF D q s = s.fin - (d : Int) := by unfold pushF; rw [if_neg h, dAt_of h2]
theorem am_Trimmed_err {m : Mach} (h : machE m ≠ 0) : Fn Tryz.prog 45 [mV m] (fun v => v = .tup [.agg [.i 0, .nil], .i (machE m)]) := (am_Trimmed0 m).mono fun v hv => by
 rcases hv with ⟨_, hv⟩ | ⟨h1, _⟩
 ·exact hv
 exact absurd h1 h
theorem am_Trimmed_ok {m : Mach} (h : machE m = 0) : Fn Tryz.prog 45 [mV m] (fun v => v = .tup [mV (trimM m), .i 0]) := (am_Trimmed0 m).mono fun v hv => by
 rcases hv with ⟨h1, _⟩ | ⟨h1, hv⟩
 ·exact absurd h h1
 rw [hv, h]
theorem pushL_len {D : List Nat} : ∀ (l : List St) (k : Nat), (pushL D k l).length = l.length
 | [], k => rfl
 | s :: l, k => by rw [pushL, List.length_cons, List.length_cons, pushL_len l (k + 1)]
theorem am_Pushed0 (m : Mach) : Fn Tryz.prog 20 [mV m] (fun v => resQ (pushE m) (pushM m) (pushV m) v) := by
 by_cases h0 : machE m = 0
 ·have hcon := am_Trimmed_ok h0
  by_cases h1 : disE (enD (trimM m)) (trimM m) = 0
  ·obtain ⟨hDl, hDb⟩ := disL_facts h1
   have hends := resI_eq (am_FarEnds0 (trimM m)) h1
   have hz := machE_zero (disE_mach h1)
   have hover := fun (D : List Nat) (T : Mach) (hT : trimM m = T) (hD : disL (enD T) T = D) (q : Nat) (s : St) (a : Ar) => pushE_over (m := m) (T := T) (D := D) h0 h1 hT hD (q := q) (s := s) (a := a)
   have hgood := fun (D : List Nat) (T : Mach) (hT : trimM m = T) (hD : disL (enD T) T = D) => pushE_ok (m := m) (T := T) (D := D) h0 h1 hT hD
   obtain ⟨T, hT⟩ : ∃ T, trimM m = T := ⟨_, rfl⟩
   obtain ⟨D, hD⟩ : ∃ D, disL (enD T) T = D := ⟨_, rfl⟩
   rw [hT] at hcon hDl hDb hends hz
   rw [hD] at hDl hDb hends
   have hover := hover D T hT hD
   have hgood := hgood D T hT hD
   obtain ⟨e, he⟩ : ∃ e, pushE m = e := ⟨_, rfl⟩
   obtain ⟨M, hM⟩ : ∃ M, pushM m = M := ⟨_, rfl⟩
   obtain ⟨X, hX⟩ : ∃ X, pushV m = X := ⟨_, rfl⟩
   rw [he, hM, hX] at hgood ⊢
   rw [he] at hover
   obtain ⟨st, sts⟩ := m
   obtain ⟨a, Ts⟩ := T
   clear hT hD h1 he hM hX
   obtain ⟨h60, h400, hst, hz⟩ := hz
   simp only at h60 h400 hst hz hDl hcon hends hover hgood
   have hal4 : ∀ x ∈ Ts, x.arcs.length ≤ 400 := fun x hx => Nat.le_trans (arcN_mem Ts x hx) h400
   obtain ⟨n, hn⟩ : ∃ n, Ts.length = n := ⟨_, rfl⟩
   rw [hn] at h60 hst hz hDl
   obtain ⟨L, hL⟩ : ∃ L, pushL D 0 Ts = L := ⟨_, rfl⟩
   have hLl : L.length = n := by rw [← hL, pushL_len, hn]
   rw [hL] at hgood
   refine Fn.intro (n := 134) ⟨Tryz.func20, rfl, rfl, rfl, rfl⟩ zT8 zT16 fun w0 out => ?_
   apply AW.sr
   refine AL.sm rfl (sm_box 1 rfl rfl rfl rfl rfl) ?_
   refine AL.sm rfl (sm_alloc (l := [.d (.p (.int .i64 0)), .d (.p (.slice none 0 0))]) 2 inf24 rfl rfl rfl rfl) ?_
   iterate 2 refine AL.z ?_
   apply AL.nil
   try simp only [nd, setL, V.cs, nz, Nat.reduceAdd, nm, ns, enum]
   apply AW.sr
   refine AL.z ?_
   refine AL.call (post := ?pc20) rfl (sm_call (args := [_]) ?hc20 ⟨Tryz.func45, rfl, rfl, rfl, rfl⟩ rfl rfl rfl rfl) ?_
   case hc20 => exact hcon
   rintro _ rfl -
   try dsimp only
   iterate 3 refine AL.z ?_
   refine AL.sm rfl (sm_alloc (l := [.d (.p (.int .i64 0)), .d (.p (.slice none 0 0))]) 5 inf24 rfl rfl rfl rfl) ?_
   refine AL.y ?_
   refine AL.z ?_
   apply AL.nil
   try simp only [nd, setL, V.cs, nz, Nat.reduceAdd, nm, ns]
   apply AW.seq
   apply AW.sr
   iterate 2 refine AL.z ?_
   apply AL.nil
   try simp only [nd]
   refine AW.condF rfl ?_
   apply AW.skip
   try simp only [thenS]
   apply AW.sr
   refine AL.z ?_
   refine AL.call (post := ?pc21) rfl (sm_call (args := [_]) ?hc21 ⟨Tryz.func46, rfl, rfl, rfl, rfl⟩ rfl rfl rfl rfl) ?_
   case hc21 => exact hends
   rintro _ rfl -
   try dsimp only
   iterate 5 refine AL.z ?_
   apply AL.nil
   try simp only [nd, setL, V.cs, nz, Nat.reduceAdd, nm, ns]
   apply AW.seq
   apply AW.sr
   iterate 2 refine AL.z ?_
   apply AL.nil
   try simp only [nd]
   refine AW.condF rfl ?_
   apply AW.skip
   try simp only [thenS]
   apply AW.sr
   iterate 2 refine AL.z ?_
   refine AL.rp rfl rfl (rp_build (vs := [(0, _)]) (zs := [.d (.p (.int .i64 0)), .d (.p (.slice none 0 0))]) pl24 inf24 rfl rfl rfl rfl) ?_
   refine AL.sm rfl (sm_alloc (l := [.d (.p (.int .i64 0)), .d (.p (.slice none 0 0))]) 8 inf24 rfl rfl rfl rfl) ?_
   refine AL.y ?_
   apply AL.nil
   try simp only [nd, setL, V.cs, nz, Nat.reduceAdd, nm, ns]
   apply AW.seq
   apply AW.seq
   refine AW.adoptH 8 1 101 2 35 rfl rfl rfl zT4 ?_
   apply AW.region
   refine AL.z ?_
   apply AL.nil
   try simp only [nd]
   apply AW.block
   refine AW.loop (fun s' => ∃ k : Nat, k ≤ n ∧ (∀ q x y, q < k → Ts[q]? = some x → y ∈ x.arcs → pushW D q y ≤ 1000000000) ∧ s' = ⟨134, [(2, .ref 2 0), (5, .ref 5 0), (7, .d (intsN D)), (8, .ref 8 0), (9, .i k)], [(2, ⟨24, [.i 0, .nil], false, 0⟩), (5, ⟨24, [.i a, .d (stsD Ts)], false, 0⟩), (8, ⟨24, [.i a, .own 101 2 k (decide (k = 0))], false, 0⟩), (101, ⟨35, (L.take k).flatMap stV2, decide (k = 0), 2⟩)], []⟩) (fun s' => n - s'.nat 9) ⟨_, ?_, 0, by omega, (fun q x y h => absurd h zT15), rfl⟩ ?_
   ·exact Less.a0
   rintro s' ⟨k, hk, hok, rfl⟩
   by_cases hlt : k < n
   ·obtain ⟨x, hx⟩ := get_lt hn hlt
    obtain ⟨d, hd⟩ := get_lt hDl hlt
    have hdb := hDb d (List.mem_of_getElem? hd)
    have hxm := List.mem_of_getElem? hx
    have hxf := (hz x hxm).1
    simp only [finOk, decide_eq_true_eq] at hxf
    obtain ⟨la, hla⟩ : ∃ n, x.arcs.length = n := ⟨_, rfl⟩
    have hla4 := hal4 x hxm
    rw [hla] at hla4
    have hLk : L[k]? = some (pushS D k x) := by rw [← hL, pushL_get, hx, Nat.zero_add]; rfl
    have hsn := congrArg (List.flatMap stV2) (take_snoc hLk)
    rw [List.flatMap_append, List.flatMap_cons, List.flatMap_nil, List.append_nil] at hsn
    have hfl : ((L.take k).flatMap stV2).length = k * 2 := by rw [flat_len (sz := 2) (fun _ => rfl), List.length_take]; omega
    apply AW.seq
    apply AW.sr
    iterate 5 refine AL.z ?_
    apply AL.nil
    try simp only [nd]
    refine AW.condT rfl ?_
    apply AW.skip
    try simp only [thenS]
    apply AW.seq
    apply AW.block
    apply AW.sr
    refine AL.rp rfl rfl (rp_build (vs := [(0, _)]) (zs := [.d (.p (.int .i64 0)), .d (.p (.slice none 0 0))]) pl35 inf35 rfl rfl rfl rfl) ?_
    refine AL.sm rfl (sm_alloc (l := [.d (.p (.int .i64 0)), .d (.p (.slice none 0 0))]) 10 inf35 rfl zT1 rfl rfl) ?_
    refine AL.y ?_
    apply AL.nil
    try simp only [nd, setL, V.cs, nz, Nat.reduceAdd, nm, ns]
    refine AW.seqc (fun s' => s' = ⟨134, [(2, .ref 2 0), (5, .ref 5 0), (7, .d (intsN D)), (8, .ref 8 0), (9, .i k), (10, .ref 10 0)], [(2, ⟨24, [.i 0, .nil], false, 0⟩), (5, ⟨24, [.i a, .d (stsD Ts)], false, 0⟩), (8, ⟨24, [.i a, .own 101 2 k (decide (k = 0))], false, 0⟩), (101, ⟨35, (L.take k).flatMap stV2, decide (k = 0), 2⟩), (10, ⟨35, [.i (pushF D k x), .nil], false, 0⟩)], []⟩) ?_ ?_
    ·skip
     by_cases hin : x.fin = 1000000001
     ·have hpf : pushF D k x = 1000000001 := pushF_inf hin
      apply AW.sr
      iterate 7 refine AL.z ?_
      apply AL.nil
      try simp only [nd]
      refine AW.condF rfl ?_
      apply AW.skip
      try simp only [thenS]
      refine ⟨_, ?_, rfl⟩
      rw [hpf]; exact Less.a0
     have hpf : pushF D k x = x.fin - (d : Int) := pushF_get hin hd
     apply AW.sr
     iterate 7 refine AL.z ?_
     apply AL.nil
     try simp only [nd]
     refine AW.condT rfl ?_
     refine AW.draw [(0, true), (1, true), (2, true), (3, true), (4, true), (5, true), (6, true), (7, true), (8, true), (9, true), (10, true), (11, true), (12, false)] (fun i => !([12] : List Nat).contains i) 13 zT12 zT12 rfl zT12 ?_
     iterate 12 refine AD1.z ?_
     refine AD1.go ?_
     refine AD2.go ?_
     (refine AD3.st rfl rfl rfl (st_store inf3 rfl rfl rfl rfl rfl rfl rfl zT7 rfl) ?_)
     refine AD3.nil ?_
     try simp only [nd, setL, V.cs, nz, Nat.reduceAdd, nm, ns]
     refine ⟨_, ?_, rfl⟩
     rw [hpf]; exact Less.a0
    rintro s' rfl
    obtain ⟨F, hF⟩ : ∃ F, pushF D k x = F := ⟨_, rfl⟩
    rw [hF]
    obtain ⟨A, hA⟩ : ∃ A, x.arcs.map (pushA D k) = A := ⟨_, rfl⟩
    have hAl : A.length = la := by rw [← hA, List.length_map, hla]
    have hS : pushS D k x = ⟨F, A⟩ := by rw [← hF, ← hA]; rfl
    rw [hS] at hsn
    refine AW.adoptH 10 1 102 4 47 rfl rfl rfl (by simp [S.clean, V.has, V.hasL, V.cs, setL, -List.map_take]) ?_
    apply AW.sr
    iterate 7 refine AL.z ?_
    apply AL.nil
    try simp only [nd]
    apply AW.seq
    apply AW.sr
    refine AL.z ?_
    apply AL.nil
    try simp only [nd]
    apply AW.block
    refine AW.loop (fun s' => ∃ i : Nat, i ≤ la ∧ (∀ j y, j < i → x.arcs[j]? = some y → pushW D k y ≤ 1000000000) ∧ s' = ⟨134, [(2, .ref 2 0), (5, .ref 5 0), (7, .d (intsN D)), (8, .ref 8 0), (9, .i k), (10, .ref 10 0), (11, .d (arsD x.arcs)), (12, .i i)], [(2, ⟨24, [.i 0, .nil], false, 0⟩), (5, ⟨24, [.i a, .d (stsD Ts)], false, 0⟩), (8, ⟨24, [.i a, .own 101 2 k (decide (k = 0))], false, 0⟩), (101, ⟨35, (L.take k).flatMap stV2, decide (k = 0), 2⟩), (10, ⟨35, [.i F, .own 102 4 i (decide (i = 0))], false, 0⟩), (102, ⟨47, (A.take i).flatMap arV2, decide (i = 0), 4⟩)], []⟩) (fun s' => la - s'.nat 12) ⟨_, ?_, 0, by omega, (fun j y h => absurd h zT15), rfl⟩ ?_
    ·exact Less.a0
    rintro s' ⟨i, hi, hik, rfl⟩
    have hfl2 : ((A.take i).flatMap arV2).length = i * 4 := by rw [flat_len (sz := 4) (fun _ => rfl), List.length_take]; omega
    by_cases hil : i < la
    ·obtain ⟨y, hy⟩ := get_lt hla hil
     have hym := List.mem_of_getElem? hy
     have hyt := (hz x hxm).2 y hym
     have hyA : A[i]? = some (pushA D k y) := by rw [← hA, List.getElem?_map, hy]; rfl
     obtain ⟨yi, yo, yw, yt⟩ := y
     simp only [arOk, decide_eq_true_eq] at hyt
     obtain ⟨p, rfl⟩ : ∃ p : Nat, yt = p := ⟨yt.toNat, by omega⟩
     obtain ⟨dp, hdp⟩ := get_lt hDl (show p < n by omega)
     have hdpb := hDb dp (List.mem_of_getElem? hdp)
     have hpw : pushW D k ⟨yi, yo, yw, p⟩ = yw + (dp : Int) - (d : Int) := by rw [pushW_get hdp hd]; omega
     have hpa : pushA D k ⟨yi, yo, yw, p⟩ = ⟨yi, yo, yw + (dp : Int) - (d : Int), p⟩ := by unfold pushA; rw [hpw]
     have hsn2 := congrArg (List.flatMap arV2) (take_snoc hyA)
     rw [hpa, List.flatMap_append, List.flatMap_cons, List.flatMap_nil, List.append_nil] at hsn2
     by_cases hov : 1000000000 < yw + (dp : Int) - (d : Int)
     ·have he4 : e = 4 := hover k x _ hx hym (by rw [hpw]; exact hov)
      subst he4
      apply AW.seq
      apply AW.sr
      iterate 4 refine AL.z ?_
      apply AL.nil
      try simp only [nd]
      refine AW.condT rfl ?_
      apply AW.skip
      try simp only [thenS]
      apply AW.seq
      apply AW.block
      apply AW.seq
      refine AW.draw [(0, true), (1, true), (2, true), (3, true), (4, true), (5, true), (6, true), (7, true), (8, true), (9, true), (10, true), (11, true), (12, true), (13, true), (14, true), (15, true), (16, true), (17, true), (18, true), (19, true)] (fun i => !([] : List Nat).contains i) 20 zT12 zT12 rfl zT12 ?_
      iterate 20 refine AD1.z ?_
      refine AD1.nil ?_
      try simp only [nd]
      apply AW.seq
      apply AW.sr
      iterate 2 refine AL.z ?_
      apply AL.nil
      try simp only [nd]
      refine AW.condT rfl ?_
      apply AW.sr
      refine AL.rp rfl rfl (rp_build (vs := []) (zs := [.d (.p (.int .i64 0)), .d (.p (.slice none 0 0))]) pl24 inf24 rfl rfl rfl rfl) ?_
      refine AL.y ?_
      iterate 2 refine AL.z ?_
      apply AL.nil
      try simp only [nd, setL, V.cs, nz, Nat.reduceAdd, nm, ns]
      apply AW.ret
      exact ⟨[_, _, _], ⟨⟨2, 0, _, _, rfl, rfl, rfl, Tryz.underlying24, .inr ⟨rfl, _, _, _, _, inf24, rfl, rfl, rfl⟩⟩, rfl, rfl, trivial⟩, .inl ⟨by decide, rfl⟩, by simp [tupOf, V.pure, V.has, V.hasL]⟩
     skip
     apply AW.seq
     apply AW.sr
     iterate 4 refine AL.z ?_
     apply AL.nil
     try simp only [nd]
     refine AW.condT rfl ?_
     apply AW.skip
     try simp only [thenS]
     apply AW.seq
     apply AW.block
     apply AW.seq
     refine AW.draw [(0, true), (1, true), (2, true), (3, true), (4, true), (5, true), (6, true), (7, true), (8, true), (9, true), (10, true), (11, true), (12, true), (13, true), (14, true), (15, true), (16, true), (17, true), (18, true), (19, true)] (fun i => !([] : List Nat).contains i) 20 zT12 zT12 rfl zT12 ?_
     iterate 20 refine AD1.z ?_
     refine AD1.nil ?_
     try simp only [nd]
     apply AW.seq
     apply AW.sr
     iterate 2 refine AL.z ?_
     apply AL.nil
     try simp only [nd]
     refine AW.condF rfl ?_
     apply AW.skip
     try simp only [thenS]
     refine AW.draw [(0, true), (1, true), (2, true), (3, true), (4, true), (5, true), (6, true), (7, true), (8, true), (9, true), (10, true), (11, true), (12, true), (13, true), (14, true), (15, true), (16, true), (17, true), (18, true), (19, false), (20, false), (21, false), (22, false)] (fun i => !([20, 21, 22] : List Nat).contains i) 23 zT12 zT12 rfl zT12 ?_
     iterate 18 refine AD1.z ?_
     refine AD1.rp rfl rfl rfl (fun _ _ h => h) (rp_build (vs := [(0, _), (1, _), (2, _), (3, _)]) (zs := [.d (.p (.int .i64 0)), .d (.p (.int .i64 0)), .d (.p (.int .i64 0)), .d (.p (.int .i64 0))]) pl47 inf47 rfl rfl rfl rfl) ?_
     refine AD1.go ?_
     refine AD2.sm rfl rfl (sm_slice (vs := [(0, _)]) (zs := [.d (.p (.int .i64 0)), .d (.p (.int .i64 0)), .d (.p (.int .i64 0)), .d (.p (.int .i64 0))]) 115 Tryz.underlying33 inf47 rfl rfl zT14 zT14 zT14 rfl rfl rfl rfl zT1 rfl rfl) ?_
     refine AD2.go ?_
     refine AD3.st rfl rfl rfl (st_appendF Tryz.underlying33 inf47 rfl zT14 rfl rfl rfl rfl rfl rfl zT5 zT1 rfl rfl rfl rfl rfl rfl rfl zT14 zT15 zT15 rfl) ?_
     simp only [S.forget, S.put, S.newObj, junkIf, V.has, V.hasL, nh, hasL_flat, hasL_append, List.map_cons, List.map_nil, List.filter_cons, List.filter_nil, Nat.reduceBNe, Nat.reduceBEq, eq_self, bne_self_eq_false,  Bool.not_true, Bool.not_false, Bool.or_false, Bool.or_true, Bool.false_or, Bool.true_or, if_true, if_false, Bool.false_eq_true, ite_true, ite_false, ↓reduceIte, beq_self_eq_true, Nat.reduceEqDiff]
     refine AD3.rp1 rfl rfl rfl rfl (rp_field_ref Tryz.underlying35 rfl rfl rfl inf33 zT14 rfl) ?_
     (refine AD3.st rfl rfl rfl (st_store inf33 rfl rfl rfl rfl rfl rfl rfl zT7 rfl) ?_)
     refine AD3.nil ?_
     try simp only [nd, setL, V.cs, nz, Nat.reduceAdd, nm, ns]
     apply AW.region
     iterate 3 refine AL.z ?_
     apply AL.nil
     try simp only [nd]
     refine ⟨_, ?_, ⟨i + 1, by omega, fun j y hj hy' => ?_, rfl⟩, ?_⟩
     ·rw [hsn2]; exact Less.a0
     ·by_cases ej : i = j
      ·subst ej
       rw [hy] at hy'
       simp only [Option.some.injEq] at hy'
       subst hy'
       rw [hpw]; omega
      exact hik j y zT15 hy'
     simp [S.nat, fnd]; omega
    obtain rfl : i = la := by omega
    have hfull : A.take i = A := List.take_of_length_le zT15
    rw [hfull] at hfl2 ⊢
    apply AW.seq
    apply AW.sr
    iterate 4 refine AL.z ?_
    apply AL.nil
    try simp only [nd]
    refine AW.condF rfl ?_
    refine AW.exit ?_
    try simp only [thenS, inBlockS, ↓reduceIte, Nat.reduceEqDiff]
    refine AW.freezeH 10 1 32 (A.map arD) rfl rfl rfl zT14 rfl rfl (by rw [List.length_map, hAl]) zT15 (rowsF (enc := arD) (sz := 4) (l := A) (fun _ => rfl) rfl) ?_
    refine AW.less (s' := ⟨134, [(2, .ref 2 0), (5, .ref 5 0), (7, .d (intsN D)), (8, .ref 8 0), (9, .i k), (10, .ref 10 0)], [(2, ⟨24, [.i 0, .nil], false, 0⟩), (5, ⟨24, [.i a, .d (stsD Ts)], false, 0⟩), (8, ⟨24, [.i a, .own 101 2 k (decide (k = 0))], false, 0⟩), (101, ⟨35, (L.take k).flatMap stV2, decide (k = 0), 2⟩), (10, ⟨35, [.i F, .d (arsD A)], false, 0⟩)], []⟩) Less.a0 ?_
    apply AW.region
    iterate 3 refine AL.z ?_
    refine AL.sm rfl (sm_slice (vs := [(0, _)]) (zs := [.d (.p (.int .i64 0)), .d (.p (.slice none 0 0))]) 121 Tryz.underlying22 inf35 rfl rfl zT14 zT14 zT14 rfl rfl rfl rfl zT1 rfl rfl) ?_
    refine AL.st rfl (st_appendF Tryz.underlying22 inf35 rfl zT14 rfl rfl rfl rfl rfl rfl zT5 zT1 rfl rfl rfl rfl rfl rfl rfl zT14 zT15 zT15 rfl) ?_
    simp only [S.forget, S.put, S.newObj, junkIf, V.has, V.hasL, nh, hasL_flat, hasL_append, List.map_cons, List.map_nil, List.filter_cons, List.filter_nil, Nat.reduceBNe, Nat.reduceBEq, eq_self, bne_self_eq_false,  Bool.not_true, Bool.not_false, Bool.or_false, Bool.or_true, Bool.false_or, Bool.true_or, if_true, if_false, Bool.false_eq_true, ite_true, ite_false, ↓reduceIte, beq_self_eq_true, Nat.reduceEqDiff]
    refine AL.z ?_
    (refine AL.st rfl (st_store inf22 rfl rfl rfl rfl rfl rfl rfl zT7 rfl) ?_)
    apply AL.nil
    try simp only [nd, setL, V.cs, nz, Nat.reduceAdd, nm, ns]
    apply AW.region
    iterate 3 refine AL.z ?_
    apply AL.nil
    try simp only [nd]
    refine ⟨_, ?_, ⟨k + 1, by omega, fun q z y hq hz' hy' => ?_, rfl⟩, ?_⟩
    ·rw [hsn]; exact Less.a0
    ·by_cases eq : k = q
     ·subst eq
      rw [hx] at hz'
      simp only [Option.some.injEq] at hz'
      subst hz'
      obtain ⟨j, hj⟩ := List.getElem?_of_mem hy'
      exact hik j y (by have := (List.getElem?_eq_some_iff.1 hj).1; omega) hj
     exact hok q z y zT15 hz' hy'
    simp [S.nat, fnd]; omega
   obtain rfl : k = n := by omega
   obtain ⟨he0, hM, hX⟩ := hgood (fun q x y hx hy => hok q x y (by have := (List.getElem?_eq_some_iff.1 hx).1; omega) hx hy)
   rw [he0, hM, hX]
   rw [List.take_of_length_le zT15]
   apply AW.seq
   apply AW.sr
   iterate 5 refine AL.z ?_
   apply AL.nil
   try simp only [nd]
   refine AW.condF rfl ?_
   refine AW.exit ?_
   try simp only [thenS, inBlockS, ↓reduceIte, Nat.reduceEqDiff]
   apply AW.seq
   apply AW.seq
   refine AW.freezeH 8 1 32 (L.map stD) rfl rfl rfl zT14 rfl rfl (by rw [List.length_map, hLl]) zT15 (rowsF (enc := stD) (sz := 2) (l := L) (fun _ => rfl) rfl) ?_
   refine AW.less (s' := ⟨134, [(2, .ref 2 0), (5, .ref 5 0), (7, .d (intsN D)), (8, .ref 8 0)], [(2, ⟨24, [.i 0, .nil], false, 0⟩), (5, ⟨24, [.i a, .d (stsD Ts)], false, 0⟩), (8, ⟨24, [.i a, .d (stsD L)], false, 0⟩)], []⟩) Less.a0 ?_
   by_cases ha0 : a < 0
   ·rw [if_pos ha0]
    apply AW.region
    iterate 3 refine AL.z ?_
    apply AL.nil
    try simp only [nd]
    refine AW.condT rfl ?_
    apply AW.sr
    refine AL.z ?_
    refine AL.y ?_
    iterate 2 refine AL.z ?_
    apply AL.nil
    try simp only [nd, setL, V.cs, nz, Nat.reduceAdd, nm, ns]
    apply AW.ret
    exact ⟨[_, _, _], ⟨⟨2, 0, _, _, rfl, rfl, rfl, Tryz.underlying24, .inr ⟨rfl, _, _, _, _, inf24, rfl, rfl, rfl⟩⟩, rfl, rfl, trivial⟩, .inr ⟨rfl, rfl⟩, by simp [tupOf, V.pure, V.has, V.hasL]⟩
   obtain ⟨p, rfl⟩ : ∃ p : Nat, a = p := ⟨a.toNat, by omega⟩
   obtain ⟨dp, hdp⟩ := get_lt hDl (show p < k by omega)
   have hXd : dAt D ((p : Int)).toNat = (dp : Int) := by simp only [Int.toNat_natCast]; exact dAt_of hdp
   rw [if_neg ha0, hXd]
   apply AW.region
   iterate 3 refine AL.z ?_
   apply AL.nil
   try simp only [nd]
   refine AW.condF rfl ?_
   apply AW.skip
   try simp only [thenS]
   apply AW.seq
   refine AW.drawT (N := ?N23) (l := #[false, false, false, false, false, false, false, false, false]) 9 zT12 rfl rfl ?_ ?_
   rotate_left
   refine AN.rp (i := 1) (l' := #[false, true, false, false, false, false, false, false, false]) rfl rfl rfl (fun _ _ h => h) zT12 rfl (rp_move rfl rfl) ?_
   refine AN.rp (i := 2) (l' := #[false, true, true, false, false, false, false, false, false]) rfl rfl rfl (fun _ _ h => h) zT12 rfl (rp_field_ref Tryz.underlying24 rfl rfl rfl inf3 zT14 rfl) ?_
   refine AN.br2 (i := 0) (j := 3) zT12 ?_ ?_
   ·refine BR.mk (l' := #[true, true, true, false, false, false, false, false, false]) rfl rfl rfl ?_
    refine ST.rd rfl (rd_loads_ref Tryz.underlying24 rfl inf24 rfl rfl rfl rfl rfl rfl) ?_
    refine AN.br2 (i := 3) (j := 6) zT12 ?_ ?_
    ·refine BR.mk (l' := #[true, true, true, true, false, false, false, false, false]) rfl rfl rfl ?_
     refine ST.rd rfl (rd_load_ref Tryz.underlying3 rfl rfl rfl rfl rfl rfl) ?_
     refine AN.rp (i := 4) (l' := #[true, true, true, true, true, false, false, false, false]) rfl rfl rfl (fun _ _ h => h) zT12 rfl (rp_index_map Tryz.underlying42 inf3 rfl rfl rfl rfl zT13) ?_
     refine AN.br2 (i := 5) (j := 6) zT12 ?_ ?_
     ·refine BR.mk (l' := #[true, true, true, true, true, true, false, false, false]) rfl rfl rfl ?_
      refine ST.rd rfl (rd_load_ad Tryz.underlying3 rfl rfl rfl rfl) ?_
      refine AN.br1 (i := 6) zT12 ?_
      refine BR.mk (l' := #[true, true, true, true, true, true, true, false, false]) rfl rfl rfl ?_
      refine ST.st (st_store_any inf24 rfl rfl rfl rfl rfl rfl rfl rfl zT3 rfl) ?_
      refine AN.rp (i := 7) (l' := #[true, true, true, true, true, true, true, true, false]) rfl rfl rfl (fun _ _ h => h) zT12 rfl (rp_assign rfl rfl) ?_
      refine AN.rp (i := 8) (l' := #[true, true, true, true, true, true, true, true, true]) rfl rfl rfl (fun _ _ h => h) zT12 rfl (rp_assign rfl rfl) ?_
      refine AN.nil zT12 ?_
      show Less _ _
      exact Less.dd _
     refine BR.mk (l' := #[true, true, true, true, true, false, true, false, false]) rfl rfl rfl ?_
     refine ST.st (st_store_any inf24 rfl rfl rfl rfl rfl rfl rfl rfl zT3 rfl) ?_
     refine AN.br1 (i := 5) zT12 ?_
     refine BR.mk (l' := #[true, true, true, true, true, true, true, false, false]) rfl rfl rfl ?_
     refine ST.rd rfl (rd_load_ad Tryz.underlying3 rfl rfl rfl rfl) ?_
     refine AN.rp (i := 7) (l' := #[true, true, true, true, true, true, true, true, false]) rfl rfl rfl (fun _ _ h => h) zT12 rfl (rp_assign rfl rfl) ?_
     refine AN.rp (i := 8) (l' := #[true, true, true, true, true, true, true, true, true]) rfl rfl rfl (fun _ _ h => h) zT12 rfl (rp_assign rfl rfl) ?_
     refine AN.nil zT12 ?_
     show Less _ _
     (try simp only [S.put, S.newObj, setL, V.cs, nz, Nat.zero_add, Nat.reduceAdd, nm, ns])
     try simp only [S.dd, ddL, List.contains_cons, List.contains_nil, Nat.reduceBEq, beq_self_eq_true, Bool.or_false, Bool.or_true, Bool.false_or, Bool.true_or, Bool.or_self, if_true, if_false, Bool.false_eq_true, ↓reduceIte]
     exact Less.a2
    refine BR.mk (l' := #[true, true, true, false, false, false, true, false, false]) rfl rfl rfl ?_
    refine ST.st (st_store_any inf24 rfl rfl rfl rfl rfl rfl rfl rfl zT3 rfl) ?_
    refine AN.br1 (i := 3) zT12 ?_
    refine BR.mk (l' := #[true, true, true, true, false, false, true, false, false]) rfl rfl rfl ?_
    refine ST.rd rfl (rd_load_ref Tryz.underlying3 rfl rfl rfl rfl rfl rfl) ?_
    refine AN.rp (i := 4) (l' := #[true, true, true, true, true, false, true, false, false]) rfl rfl rfl (fun _ _ h => h) zT12 rfl (rp_index_map Tryz.underlying42 inf3 rfl rfl rfl rfl zT13) ?_
    refine AN.br1 (i := 5) zT12 ?_
    refine BR.mk (l' := #[true, true, true, true, true, true, true, false, false]) rfl rfl rfl ?_
    refine ST.rd rfl (rd_load_ad Tryz.underlying3 rfl rfl rfl rfl) ?_
    refine AN.rp (i := 7) (l' := #[true, true, true, true, true, true, true, true, false]) rfl rfl rfl (fun _ _ h => h) zT12 rfl (rp_assign rfl rfl) ?_
    refine AN.rp (i := 8) (l' := #[true, true, true, true, true, true, true, true, true]) rfl rfl rfl (fun _ _ h => h) zT12 rfl (rp_assign rfl rfl) ?_
    refine AN.nil zT12 ?_
    show Less _ _
    (try simp only [S.put, S.newObj, setL, V.cs, nz, Nat.zero_add, Nat.reduceAdd, nm, ns])
    try simp only [S.dd, ddL, List.contains_cons, List.contains_nil, Nat.reduceBEq, beq_self_eq_true, Bool.or_false, Bool.or_true, Bool.false_or, Bool.true_or, Bool.or_self, if_true, if_false, Bool.false_eq_true, ↓reduceIte]
    exact Less.a2
   ·refine BR.mk (l' := #[false, true, true, true, false, false, false, false, false]) rfl rfl rfl ?_
    refine ST.rd rfl (rd_load_ref Tryz.underlying3 rfl rfl rfl rfl rfl rfl) ?_
    refine AN.rp (i := 4) (l' := #[false, true, true, true, true, false, false, false, false]) rfl rfl rfl (fun _ _ h => h) zT12 rfl (rp_index_map Tryz.underlying42 inf3 rfl rfl rfl rfl zT13) ?_
    refine AN.br2 (i := 0) (j := 5) zT12 ?_ ?_
    ·refine BR.mk (l' := #[true, true, true, true, true, false, false, false, false]) rfl rfl rfl ?_
     refine ST.rd rfl (rd_loads_ref Tryz.underlying24 rfl inf24 rfl rfl rfl rfl rfl rfl) ?_
     refine AN.br2 (i := 5) (j := 6) zT12 ?_ ?_
     ·refine BR.mk (l' := #[true, true, true, true, true, true, false, false, false]) rfl rfl rfl ?_
      refine ST.rd rfl (rd_load_ad Tryz.underlying3 rfl rfl rfl rfl) ?_
      refine AN.br1 (i := 6) zT12 ?_
      refine BR.mk (l' := #[true, true, true, true, true, true, true, false, false]) rfl rfl rfl ?_
      refine ST.st (st_store_any inf24 rfl rfl rfl rfl rfl rfl rfl rfl zT3 rfl) ?_
      refine AN.rp (i := 7) (l' := #[true, true, true, true, true, true, true, true, false]) rfl rfl rfl (fun _ _ h => h) zT12 rfl (rp_assign rfl rfl) ?_
      refine AN.rp (i := 8) (l' := #[true, true, true, true, true, true, true, true, true]) rfl rfl rfl (fun _ _ h => h) zT12 rfl (rp_assign rfl rfl) ?_
      refine AN.nil zT12 ?_
      show Less _ _
      (try simp only [S.put, S.newObj, setL, V.cs, nz, Nat.zero_add, Nat.reduceAdd, nm, ns])
      try simp only [S.dd, ddL, List.contains_cons, List.contains_nil, Nat.reduceBEq, beq_self_eq_true, Bool.or_false, Bool.or_true, Bool.false_or, Bool.true_or, Bool.or_self, if_true, if_false, Bool.false_eq_true, ↓reduceIte]
      exact Less.a2
     refine BR.mk (l' := #[true, true, true, true, true, false, true, false, false]) rfl rfl rfl ?_
     refine ST.st (st_store_any inf24 rfl rfl rfl rfl rfl rfl rfl rfl zT3 rfl) ?_
     refine AN.br1 (i := 5) zT12 ?_
     refine BR.mk (l' := #[true, true, true, true, true, true, true, false, false]) rfl rfl rfl ?_
     refine ST.rd rfl (rd_load_ad Tryz.underlying3 rfl rfl rfl rfl) ?_
     refine AN.rp (i := 7) (l' := #[true, true, true, true, true, true, true, true, false]) rfl rfl rfl (fun _ _ h => h) zT12 rfl (rp_assign rfl rfl) ?_
     refine AN.rp (i := 8) (l' := #[true, true, true, true, true, true, true, true, true]) rfl rfl rfl (fun _ _ h => h) zT12 rfl (rp_assign rfl rfl) ?_
     refine AN.nil zT12 ?_
     show Less _ _
     (try simp only [S.put, S.newObj, setL, V.cs, nz, Nat.zero_add, Nat.reduceAdd, nm, ns])
     try simp only [S.dd, ddL, List.contains_cons, List.contains_nil, Nat.reduceBEq, beq_self_eq_true, Bool.or_false, Bool.or_true, Bool.false_or, Bool.true_or, Bool.or_self, if_true, if_false, Bool.false_eq_true, ↓reduceIte]
     exact Less.a2
    refine BR.mk (l' := #[false, true, true, true, true, true, false, false, false]) rfl rfl rfl ?_
    refine ST.rd rfl (rd_load_ad Tryz.underlying3 rfl rfl rfl rfl) ?_
    refine AN.br1 (i := 0) zT12 ?_
    refine BR.mk (l' := #[true, true, true, true, true, true, false, false, false]) rfl rfl rfl ?_
    refine ST.rd rfl (rd_loads_ref Tryz.underlying24 rfl inf24 rfl rfl rfl rfl rfl rfl) ?_
    refine AN.br1 (i := 6) zT12 ?_
    refine BR.mk (l' := #[true, true, true, true, true, true, true, false, false]) rfl rfl rfl ?_
    refine ST.st (st_store_any inf24 rfl rfl rfl rfl rfl rfl rfl rfl zT3 rfl) ?_
    refine AN.rp (i := 7) (l' := #[true, true, true, true, true, true, true, true, false]) rfl rfl rfl (fun _ _ h => h) zT12 rfl (rp_assign rfl rfl) ?_
    refine AN.rp (i := 8) (l' := #[true, true, true, true, true, true, true, true, true]) rfl rfl rfl (fun _ _ h => h) zT12 rfl (rp_assign rfl rfl) ?_
    refine AN.nil zT12 ?_
    show Less _ _
    (try simp only [S.put, S.newObj, setL, V.cs, nz, Nat.zero_add, Nat.reduceAdd, nm, ns])
    try simp only [S.dd, ddL, List.contains_cons, List.contains_nil, Nat.reduceBEq, beq_self_eq_true, Bool.or_false, Bool.or_true, Bool.false_or, Bool.true_or, Bool.or_self, if_true, if_false, Bool.false_eq_true, ↓reduceIte]
    exact Less.a2
   (try simp only [S.put, S.newObj, setL, V.cs, nz, Nat.zero_add, Nat.reduceAdd, nm, ns])
   try simp only [S.dd, ddL, List.contains_cons, List.contains_nil, Nat.reduceBEq, beq_self_eq_true, Bool.or_false, Bool.or_true, Bool.false_or, Bool.true_or, Bool.or_self, if_true, if_false, Bool.false_eq_true, ↓reduceIte]
   try simp only [nd, setL, V.cs, nz, Nat.reduceAdd, nm, ns]
   apply AW.ret
   exact ⟨[_, _, _], ⟨⟨2, 0, _, _, rfl, rfl, rfl, Tryz.underlying24, .inr ⟨rfl, _, _, _, _, inf24, rfl, rfl, rfl⟩⟩, rfl, rfl, trivial⟩, .inr ⟨rfl, rfl⟩, by simp [tupOf, V.pure, V.has, V.hasL]⟩
  have hends := resI_ne (am_FarEnds0 (trimM m)) h1
  rw [pushE_dis h0 h1]
  obtain ⟨e, he⟩ : ∃ e, disE (enD (trimM m)) (trimM m) = e := ⟨_, rfl⟩
  rw [he] at h1 hends ⊢
  obtain ⟨st, sts⟩ := m
  obtain ⟨⟨a, Ts⟩, hT⟩ : ∃ T, trimM ⟨st, sts⟩ = T := ⟨_, rfl⟩
  rw [hT] at hcon hends
  refine Fn.intro (n := 134) ⟨Tryz.func20, rfl, rfl, rfl, rfl⟩ zT8 zT16 fun w0 out => ?_
  apply AW.sr
  refine AL.sm rfl (sm_box 1 rfl rfl rfl rfl rfl) ?_
  refine AL.sm rfl (sm_alloc (l := [.d (.p (.int .i64 0)), .d (.p (.slice none 0 0))]) 2 inf24 rfl rfl rfl rfl) ?_
  iterate 2 refine AL.z ?_
  apply AL.nil
  try simp only [nd, setL, V.cs, nz, Nat.reduceAdd, nm, ns, enum]
  apply AW.sr
  refine AL.z ?_
  refine AL.call (post := ?pc23) rfl (sm_call (args := [_]) ?hc23 ⟨Tryz.func45, rfl, rfl, rfl, rfl⟩ rfl rfl rfl rfl) ?_
  case hc23 => exact hcon
  rintro _ rfl -
  try dsimp only
  iterate 3 refine AL.z ?_
  refine AL.sm rfl (sm_alloc (l := [.d (.p (.int .i64 0)), .d (.p (.slice none 0 0))]) 5 inf24 rfl rfl rfl rfl) ?_
  refine AL.y ?_
  refine AL.z ?_
  apply AL.nil
  try simp only [nd, setL, V.cs, nz, Nat.reduceAdd, nm, ns]
  apply AW.seq
  apply AW.sr
  iterate 2 refine AL.z ?_
  apply AL.nil
  try simp only [nd]
  refine AW.condF rfl ?_
  apply AW.skip
  try simp only [thenS]
  apply AW.sr
  refine AL.z ?_
  refine AL.call (post := ?pc24) rfl (sm_call (args := [_]) ?hc24 ⟨Tryz.func46, rfl, rfl, rfl, rfl⟩ rfl rfl rfl rfl) ?_
  case hc24 => exact hends
  rintro _ rfl -
  try dsimp only
  iterate 5 refine AL.z ?_
  apply AL.nil
  try simp only [nd, setL, V.cs, nz, Nat.reduceAdd, nm, ns]
  apply AW.seq
  apply AW.sr
  iterate 2 refine AL.z ?_
  apply AL.nil
  try simp only [nd]
  refine AW.condT rfl ?_
  apply AW.sr
  refine AL.rp rfl rfl (rp_build (vs := []) (zs := [.d (.p (.int .i64 0)), .d (.p (.slice none 0 0))]) pl24 inf24 rfl rfl rfl rfl) ?_
  refine AL.z ?_
  refine AL.y ?_
  iterate 2 refine AL.z ?_
  apply AL.nil
  try simp only [nd, setL, V.cs, nz, Nat.reduceAdd, nm, ns]
  apply AW.ret
  exact ⟨[_, _, _], ⟨⟨2, 0, _, _, rfl, rfl, rfl, Tryz.underlying24, .inr ⟨rfl, _, _, _, _, inf24, rfl, rfl, rfl⟩⟩, rfl, rfl, trivial⟩, .inl ⟨h1, rfl⟩, by simp [tupOf, V.pure, V.has, V.hasL]⟩
 have hcon := am_Trimmed_err h0
 rw [pushE_mach h0]
 obtain ⟨st, sts⟩ := m
 obtain ⟨e, he⟩ : ∃ e, machE ⟨st, sts⟩ = e := ⟨_, rfl⟩
 rw [he] at h0 hcon ⊢
 refine Fn.intro (n := 134) ⟨Tryz.func20, rfl, rfl, rfl, rfl⟩ zT8 zT16 fun w0 out => ?_
 apply AW.sr
 refine AL.sm rfl (sm_box 1 rfl rfl rfl rfl rfl) ?_
 refine AL.sm rfl (sm_alloc (l := [.d (.p (.int .i64 0)), .d (.p (.slice none 0 0))]) 2 inf24 rfl rfl rfl rfl) ?_
 iterate 2 refine AL.z ?_
 apply AL.nil
 try simp only [nd, setL, V.cs, nz, Nat.reduceAdd, nm, ns, enum]
 apply AW.sr
 refine AL.z ?_
 refine AL.call (post := ?pc25) rfl (sm_call (args := [_]) ?hc25 ⟨Tryz.func45, rfl, rfl, rfl, rfl⟩ rfl rfl rfl rfl) ?_
 case hc25 => exact hcon
 rintro _ rfl -
 try dsimp only
 iterate 3 refine AL.z ?_
 refine AL.sm rfl (sm_alloc (l := [.d (.p (.int .i64 0)), .d (.p (.slice none 0 0))]) 5 inf24 rfl rfl rfl rfl) ?_
 refine AL.y ?_
 refine AL.z ?_
 apply AL.nil
 try simp only [nd, setL, V.cs, nz, Nat.reduceAdd, nm, ns]
 apply AW.seq
 apply AW.sr
 iterate 2 refine AL.z ?_
 apply AL.nil
 try simp only [nd]
 refine AW.condT rfl ?_
 apply AW.sr
 refine AL.rp rfl rfl (rp_build (vs := []) (zs := [.d (.p (.int .i64 0)), .d (.p (.slice none 0 0))]) pl24 inf24 rfl rfl rfl rfl) ?_
 refine AL.z ?_
 refine AL.y ?_
 iterate 2 refine AL.z ?_
 apply AL.nil
 try simp only [nd, setL, V.cs, nz, Nat.reduceAdd, nm, ns]
 apply AW.ret
 exact ⟨[_, _, _], ⟨⟨2, 0, _, _, rfl, rfl, rfl, Tryz.underlying24, .inr ⟨rfl, _, _, _, _, inf24, rfl, rfl, rfl⟩⟩, rfl, rfl, trivial⟩, .inl ⟨h0, rfl⟩, by simp [tupOf, V.pure, V.has, V.hasL]⟩
theorem am_Pushed (m : Mach) : Fn Tryz.prog 20 [mV m] (fun v => v = .tup [mV (pushM m), .i (pushV m), .i (pushE m)]) := (am_Pushed0 m).wkS (resQ_wk push_none)
theorem am_weight (x : Int) : Fn Tryz.prog 61 [.i x] (fun v => v = .b (decide (0 ≤ x ∧ x ≤ 1000000000))) := by
 refine Fn.intro (n := 9) ⟨Tryz.func61, rfl, rfl, rfl, rfl⟩ zT8 zT16 fun w0 out => ?_
 by_cases h1 : 0 ≤ x
 ·by_cases h2 : x ≤ 1000000000
  ·skip
   apply AW.sr
   refine AL.z ?_
   apply AL.nil
   try simp only [thenS, S.put, enum, List.nil_append, List.cons_append, List.append_nil, Nat.zero_add, Nat.reduceAdd]
   apply AW.sr
   iterate 3 refine AL.z ?_
   iterate 2 refine AL.zy ?_
   iterate 2 refine AL.z ?_
   apply AL.nil
   try simp only [nd]
   apply AW.ret
   exact ⟨[_], ⟨rfl, trivial⟩, by simp [tupOf, h1, h2], by simp [tupOf, V.pure, V.has]⟩
  skip
  apply AW.sr
  refine AL.z ?_
  apply AL.nil
  try simp only [thenS, S.put, enum, List.nil_append, List.cons_append, List.append_nil, Nat.zero_add, Nat.reduceAdd]
  apply AW.sr
  iterate 3 refine AL.z ?_
  iterate 2 refine AL.zy ?_
  iterate 2 refine AL.z ?_
  apply AL.nil
  try simp only [nd]
  apply AW.ret
  exact ⟨[_], ⟨rfl, trivial⟩, by simp [tupOf, h1, h2], by simp [tupOf, V.pure, V.has]⟩
 skip
 apply AW.sr
 refine AL.z ?_
 apply AL.nil
 try simp only [thenS, S.put, enum, List.nil_append, List.cons_append, List.append_nil, Nat.zero_add, Nat.reduceAdd]
 apply AW.sr
 iterate 3 refine AL.z ?_
 refine AL.no rfl rfl rfl rfl ?_
 refine AL.no rfl rfl rfl rfl ?_
 iterate 2 refine AL.z ?_
 apply AL.nil
 try simp only [nd]
 apply AW.ret
 exact ⟨[_], ⟨rfl, trivial⟩, by simp [tupOf, h1], by simp [tupOf, V.pure, V.has]⟩
theorem am_label (x : Int) : Fn Tryz.prog 101 [.i x] (fun v => v = .b (decide (0 ≤ x ∧ x ≤ 1000))) := by
 refine Fn.intro (n := 9) ⟨Tryz.func101, rfl, rfl, rfl, rfl⟩ zT8 zT16 fun w0 out => ?_
 by_cases h1 : 0 ≤ x
 ·by_cases h2 : x ≤ 1000
  ·skip
   apply AW.sr
   refine AL.z ?_
   apply AL.nil
   try simp only [thenS, S.put, enum, List.nil_append, List.cons_append, List.append_nil, Nat.zero_add, Nat.reduceAdd]
   apply AW.sr
   iterate 3 refine AL.z ?_
   iterate 2 refine AL.zy ?_
   iterate 2 refine AL.z ?_
   apply AL.nil
   try simp only [nd]
   apply AW.ret
   exact ⟨[_], ⟨rfl, trivial⟩, by simp [tupOf, h1, h2], by simp [tupOf, V.pure, V.has]⟩
  skip
  apply AW.sr
  refine AL.z ?_
  apply AL.nil
  try simp only [thenS, S.put, enum, List.nil_append, List.cons_append, List.append_nil, Nat.zero_add, Nat.reduceAdd]
  apply AW.sr
  iterate 3 refine AL.z ?_
  iterate 2 refine AL.zy ?_
  iterate 2 refine AL.z ?_
  apply AL.nil
  try simp only [nd]
  apply AW.ret
  exact ⟨[_], ⟨rfl, trivial⟩, by simp [tupOf, h1, h2], by simp [tupOf, V.pure, V.has]⟩
 skip
 apply AW.sr
 refine AL.z ?_
 apply AL.nil
 try simp only [thenS, S.put, enum, List.nil_append, List.cons_append, List.append_nil, Nat.zero_add, Nat.reduceAdd]
 apply AW.sr
 iterate 3 refine AL.z ?_
 refine AL.no rfl rfl rfl rfl ?_
 refine AL.no rfl rfl rfl rfl ?_
 iterate 2 refine AL.z ?_
 apply AL.nil
 try simp only [nd]
 apply AW.ret
 exact ⟨[_], ⟨rfl, trivial⟩, by simp [tupOf, h1], by simp [tupOf, V.pure, V.has]⟩
theorem am_arc (y : Ar) (n : Int) : Fn Tryz.prog 64 [.agg ((arD y).map V.d), .i n] (fun v => v = .b (arOk n y)) := by
 refine Fn.intro (n := 32) ⟨Tryz.func64, rfl, rfl, rfl, rfl⟩ zT8 zT16 fun w0 out => ?_
 by_cases hok : (0 ≤ y.i ∧ y.i ≤ 1000) ∧ (0 ≤ y.o ∧ y.o ≤ 1000) ∧ (0 ≤ y.w ∧ y.w ≤ 1000000000) ∧ 0 ≤ y.t ∧ y.t < n
 ·rw [arOk_yes hok]
  obtain ⟨h1, h2, h3, h4, h5⟩ := hok
  apply AW.sr
  refine AL.sm rfl (sm_box 2 rfl rfl rfl rfl rfl) ?_
  refine AL.z ?_
  apply AL.nil
  try simp only [nd, setL, V.cs, nz, Nat.reduceAdd, nm, ns, enum]
  apply AW.sr
  refine AL.z ?_
  apply AL.nil
  try simp only [nd]
  apply AW.sr
  iterate 3 refine AL.z ?_
  refine AL.call (post := ?pc30) rfl (sm_callv (args := [_]) ?hc30 ⟨Tryz.func101, rfl, rfl, rfl, rfl⟩ rfl rfl rfl rfl) ?_
  case hc30 => (refine Fn.decT (am_label _) ?_; omega)
  rintro _ rfl -
  try dsimp only
  refine AL.z ?_
  iterate 3 refine AL.zy ?_
  (refine AL.cally (post := ?pc31) rfl rfl (sm_callv (args := [_]) ?hc31 ⟨Tryz.func101, rfl, rfl, rfl, rfl⟩ rfl rfl rfl rfl) ?_; (case hc31 => ((refine Fn.decT (am_label _) ?_; omega))); rintro _ rfl -; try dsimp only)
  iterate 2 refine AL.z ?_
  iterate 2 refine AL.zy ?_
  (refine AL.cally (post := ?pc32) rfl rfl (sm_call (args := [_]) ?hc32 ⟨Tryz.func61, rfl, rfl, rfl, rfl⟩ rfl rfl rfl rfl) ?_; (case hc32 => (refine Fn.decT (am_weight _) ?_; omega)); rintro _ rfl -; try dsimp only)
  iterate 2 refine AL.z ?_
  iterate 3 refine AL.zy ?_
  iterate 2 refine AL.z ?_
  iterate 4 refine AL.zy ?_
  iterate 2 refine AL.z ?_
  apply AL.nil
  try simp only [nd, setL, V.cs, nz, Nat.reduceAdd, nm, ns]
  apply AW.ret
  exact ⟨[_], ⟨rfl, trivial⟩, rfl, by simp [tupOf, V.pure, V.has]⟩
 rw [arOk_no hok]
 by_cases h1 : 0 ≤ y.i ∧ y.i ≤ 1000
 ·by_cases h2 : 0 ≤ y.o ∧ y.o ≤ 1000
  ·by_cases h3 : 0 ≤ y.w ∧ y.w ≤ 1000000000
   ·by_cases h4 : 0 ≤ y.t
    ·have h5 : ¬ y.t < n := fun h5 => hok ⟨h1, h2, h3, h4, h5⟩
     clear hok
     apply AW.sr
     refine AL.sm rfl (sm_box 2 rfl rfl rfl rfl rfl) ?_
     refine AL.z ?_
     apply AL.nil
     try simp only [nd, setL, V.cs, nz, Nat.reduceAdd, nm, ns, enum]
     apply AW.sr
     refine AL.z ?_
     apply AL.nil
     try simp only [nd]
     apply AW.sr
     iterate 3 refine AL.z ?_
     refine AL.call (post := ?pc33) rfl (sm_callv (args := [_]) ?hc33 ⟨Tryz.func101, rfl, rfl, rfl, rfl⟩ rfl rfl rfl rfl) ?_
     case hc33 => (refine Fn.decT (am_label _) ?_; omega)
     rintro _ rfl -
     try dsimp only
     refine AL.z ?_
     iterate 3 refine AL.zy ?_
     (refine AL.cally (post := ?pc34) rfl rfl (sm_callv (args := [_]) ?hc34 ⟨Tryz.func101, rfl, rfl, rfl, rfl⟩ rfl rfl rfl rfl) ?_; (case hc34 => ((refine Fn.decT (am_label _) ?_; omega))); rintro _ rfl -; try dsimp only)
     iterate 2 refine AL.z ?_
     iterate 2 refine AL.zy ?_
     (refine AL.cally (post := ?pc35) rfl rfl (sm_call (args := [_]) ?hc35 ⟨Tryz.func61, rfl, rfl, rfl, rfl⟩ rfl rfl rfl rfl) ?_; (case hc35 => (refine Fn.decT (am_weight _) ?_; omega)); rintro _ rfl -; try dsimp only)
     iterate 2 refine AL.z ?_
     iterate 3 refine AL.zy ?_
     iterate 2 refine AL.z ?_
     iterate 4 refine AL.zy ?_
     iterate 2 refine AL.z ?_
     apply AL.nil
     try simp only [nd, setL, V.cs, nz, Nat.reduceAdd, nm, ns]
     apply AW.ret
     exact ⟨[_], ⟨rfl, trivial⟩, rfl, by simp [tupOf, V.pure, V.has]⟩
    clear hok
    apply AW.sr
    refine AL.sm rfl (sm_box 2 rfl rfl rfl rfl rfl) ?_
    refine AL.z ?_
    apply AL.nil
    try simp only [nd, setL, V.cs, nz, Nat.reduceAdd, nm, ns, enum]
    apply AW.sr
    refine AL.z ?_
    apply AL.nil
    try simp only [nd]
    apply AW.sr
    iterate 3 refine AL.z ?_
    refine AL.call (post := ?pc36) rfl (sm_callv (args := [_]) ?hc36 ⟨Tryz.func101, rfl, rfl, rfl, rfl⟩ rfl rfl rfl rfl) ?_
    case hc36 => (refine Fn.decT (am_label _) ?_; omega)
    rintro _ rfl -
    try dsimp only
    refine AL.z ?_
    iterate 3 refine AL.zy ?_
    (refine AL.cally (post := ?pc37) rfl rfl (sm_callv (args := [_]) ?hc37 ⟨Tryz.func101, rfl, rfl, rfl, rfl⟩ rfl rfl rfl rfl) ?_; (case hc37 => ((refine Fn.decT (am_label _) ?_; omega))); rintro _ rfl -; try dsimp only)
    iterate 2 refine AL.z ?_
    iterate 2 refine AL.zy ?_
    (refine AL.cally (post := ?pc38) rfl rfl (sm_call (args := [_]) ?hc38 ⟨Tryz.func61, rfl, rfl, rfl, rfl⟩ rfl rfl rfl rfl) ?_; (case hc38 => (refine Fn.decT (am_weight _) ?_; omega)); rintro _ rfl -; try dsimp only)
    iterate 2 refine AL.z ?_
    iterate 3 refine AL.zy ?_
    iterate 2 refine AL.z ?_
    refine AL.no rfl rfl rfl rfl ?_
    refine AL.no rfl rfl rfl rfl ?_
    refine AL.no rfl rfl rfl rfl ?_
    refine AL.no rfl rfl rfl rfl ?_
    iterate 2 refine AL.z ?_
    apply AL.nil
    try simp only [nd, setL, V.cs, nz, Nat.reduceAdd, nm, ns]
    apply AW.ret
    exact ⟨[_], ⟨rfl, trivial⟩, rfl, by simp [tupOf, V.pure, V.has]⟩
   clear hok
   apply AW.sr
   refine AL.sm rfl (sm_box 2 rfl rfl rfl rfl rfl) ?_
   refine AL.z ?_
   apply AL.nil
   try simp only [nd, setL, V.cs, nz, Nat.reduceAdd, nm, ns, enum]
   apply AW.sr
   refine AL.z ?_
   apply AL.nil
   try simp only [nd]
   apply AW.sr
   iterate 3 refine AL.z ?_
   refine AL.call (post := ?pc39) rfl (sm_callv (args := [_]) ?hc39 ⟨Tryz.func101, rfl, rfl, rfl, rfl⟩ rfl rfl rfl rfl) ?_
   case hc39 => (refine Fn.decT (am_label _) ?_; omega)
   rintro _ rfl -
   try dsimp only
   refine AL.z ?_
   iterate 3 refine AL.zy ?_
   (refine AL.cally (post := ?pc40) rfl rfl (sm_callv (args := [_]) ?hc40 ⟨Tryz.func101, rfl, rfl, rfl, rfl⟩ rfl rfl rfl rfl) ?_; (case hc40 => ((refine Fn.decT (am_label _) ?_; omega))); rintro _ rfl -; try dsimp only)
   iterate 2 refine AL.z ?_
   iterate 2 refine AL.zy ?_
   (refine AL.cally (post := ?pc41) rfl rfl (sm_call (args := [_]) ?hc41 ⟨Tryz.func61, rfl, rfl, rfl, rfl⟩ rfl rfl rfl rfl) ?_; (case hc41 => (refine Fn.decF (am_weight _) ?_; omega)); rintro _ rfl -; try dsimp only)
   iterate 2 refine AL.z ?_
   refine AL.no rfl rfl rfl rfl ?_
   refine AL.no rfl rfl rfl rfl ?_
   refine AL.no rfl rfl rfl rfl ?_
   iterate 2 refine AL.z ?_
   refine AL.no rfl rfl rfl rfl ?_
   refine AL.no rfl rfl rfl rfl ?_
   refine AL.no rfl rfl rfl rfl ?_
   refine AL.no rfl rfl rfl rfl ?_
   iterate 2 refine AL.z ?_
   apply AL.nil
   try simp only [nd, setL, V.cs, nz, Nat.reduceAdd, nm, ns]
   apply AW.ret
   exact ⟨[_], ⟨rfl, trivial⟩, rfl, by simp [tupOf, V.pure, V.has]⟩
  clear hok
  apply AW.sr
  refine AL.sm rfl (sm_box 2 rfl rfl rfl rfl rfl) ?_
  refine AL.z ?_
  apply AL.nil
  try simp only [nd, setL, V.cs, nz, Nat.reduceAdd, nm, ns, enum]
  apply AW.sr
  refine AL.z ?_
  apply AL.nil
  try simp only [nd]
  apply AW.sr
  iterate 3 refine AL.z ?_
  refine AL.call (post := ?pc42) rfl (sm_callv (args := [_]) ?hc42 ⟨Tryz.func101, rfl, rfl, rfl, rfl⟩ rfl rfl rfl rfl) ?_
  case hc42 => (refine Fn.decT (am_label _) ?_; omega)
  rintro _ rfl -
  try dsimp only
  refine AL.z ?_
  iterate 3 refine AL.zy ?_
  (refine AL.cally (post := ?pc43) rfl rfl (sm_callv (args := [_]) ?hc43 ⟨Tryz.func101, rfl, rfl, rfl, rfl⟩ rfl rfl rfl rfl) ?_; (case hc43 => ((refine Fn.decF (am_label _) ?_; omega))); rintro _ rfl -; try dsimp only)
  iterate 2 refine AL.z ?_
  refine AL.no rfl rfl rfl rfl ?_
  refine AL.no rfl rfl rfl rfl ?_
  refine AL.no rfl rfl rfl rfl ?_
  iterate 2 refine AL.z ?_
  refine AL.no rfl rfl rfl rfl ?_
  refine AL.no rfl rfl rfl rfl ?_
  refine AL.no rfl rfl rfl rfl ?_
  iterate 2 refine AL.z ?_
  refine AL.no rfl rfl rfl rfl ?_
  refine AL.no rfl rfl rfl rfl ?_
  refine AL.no rfl rfl rfl rfl ?_
  refine AL.no rfl rfl rfl rfl ?_
  iterate 2 refine AL.z ?_
  apply AL.nil
  try simp only [nd, setL, V.cs, nz, Nat.reduceAdd, nm, ns]
  apply AW.ret
  exact ⟨[_], ⟨rfl, trivial⟩, rfl, by simp [tupOf, V.pure, V.has]⟩
 clear hok
 apply AW.sr
 refine AL.sm rfl (sm_box 2 rfl rfl rfl rfl rfl) ?_
 refine AL.z ?_
 apply AL.nil
 try simp only [nd, setL, V.cs, nz, Nat.reduceAdd, nm, ns, enum]
 apply AW.sr
 refine AL.z ?_
 apply AL.nil
 try simp only [nd]
 apply AW.sr
 iterate 3 refine AL.z ?_
 refine AL.call (post := ?pc45) rfl (sm_callv (args := [_]) ?hc45 ⟨Tryz.func101, rfl, rfl, rfl, rfl⟩ rfl rfl rfl rfl) ?_
 case hc45 => (refine Fn.decF (am_label _) ?_; omega)
 rintro _ rfl -
 try dsimp only
 refine AL.z ?_
 refine AL.no rfl rfl rfl rfl ?_
 refine AL.no rfl rfl rfl rfl ?_
 refine AL.no rfl rfl rfl rfl ?_
 refine AL.no rfl rfl rfl rfl ?_
 iterate 2 refine AL.z ?_
 refine AL.no rfl rfl rfl rfl ?_
 refine AL.no rfl rfl rfl rfl ?_
 refine AL.no rfl rfl rfl rfl ?_
 iterate 2 refine AL.z ?_
 refine AL.no rfl rfl rfl rfl ?_
 refine AL.no rfl rfl rfl rfl ?_
 refine AL.no rfl rfl rfl rfl ?_
 iterate 2 refine AL.z ?_
 refine AL.no rfl rfl rfl rfl ?_
 refine AL.no rfl rfl rfl rfl ?_
 refine AL.no rfl rfl rfl rfl ?_
 refine AL.no rfl rfl rfl rfl ?_
 iterate 2 refine AL.z ?_
 apply AL.nil
 try simp only [nd, setL, V.cs, nz, Nat.reduceAdd, nm, ns]
 apply AW.ret
 exact ⟨[_], ⟨rfl, trivial⟩, rfl, by simp [tupOf, V.pure, V.has]⟩
theorem am_Check1 (y : Ar) (n : Int) : Fn Tryz.prog 63 [.agg ((arD y).map V.d), .ad [.p (.int .i64 n)]] (fun v => v = .b (!arOk n y)) := by
 refine Fn.intro (n := 8) ⟨Tryz.func63, rfl, rfl, rfl, rfl⟩ zT8 zT16 fun w0 out => ?_
 apply AW.sr
 refine AL.sm rfl (sm_box 2 rfl rfl rfl rfl rfl) ?_
 refine AL.z ?_
 apply AL.nil
 try simp only [nd, setL, V.cs, nz, Nat.reduceAdd, nm, ns, enum]
 apply AW.sr
 iterate 2 refine AL.z ?_
 refine AL.call (post := ?pc48) rfl (sm_call (args := [_, _]) ?hc48 ⟨Tryz.func64, rfl, rfl, rfl, rfl⟩ rfl rfl rfl rfl) ?_
 case hc48 => exact am_arc _ _
 rintro _ rfl -
 try dsimp only
 iterate 2 refine AL.z ?_
 apply AL.nil
 try simp only [nd, setL, V.cs, nz, Nat.reduceAdd, nm, ns]
 apply AW.ret
 exact ⟨[_], ⟨rfl, trivial⟩, rfl, by simp [tupOf, V.pure, V.has]⟩
theorem am_IndexFunc (l : List Ar) (n : Int) : Fn Tryz.prog 100 [.d (arsD l), .fn 63 [.ad [.p (.int .i64 n)]]] (fun v => ∃ i : Int, v = .i i ∧ (decide (0 ≤ i) = !l.all (arOk n))) := by
 refine Fn.sl 0 rfl fun hb => ?_
 obtain ⟨len, hn⟩ : ∃ n, l.length = n := ⟨_, rfl⟩
 rw [List.length_map, hn] at hb
 refine Fn.intro (n := 19) ⟨Tryz.func100, rfl, rfl, rfl, rfl⟩ zT8 zT16 fun w0 out => ?_
 apply AW.sr
 refine AL.z ?_
 apply AL.nil
 try simp only [thenS, S.put, enum, List.nil_append, List.cons_append, List.append_nil, Nat.zero_add, Nat.reduceAdd]
 apply AW.seq
 apply AW.sr
 iterate 3 refine AL.z ?_
 apply AL.nil
 try simp only [nd]
 apply AW.block
 refine AW.loop (fun s' => ∃ k : Nat, k ≤ len ∧ (l.take k).all (arOk n) = true ∧ s' = ⟨19, [(0, .d (arsD l)), (1, .fn 63 [.ad [.p (.int .i64 n)]]), (7, .i len), (8, .i k)], [], []⟩) (fun s' => len - s'.nat 8) ⟨_, ?_, 0, by omega, by simp, rfl⟩ ?_
 ·exact Less.a0
 rintro s' ⟨k, hk, hall, rfl⟩
 by_cases hlt : k < len
 ·obtain ⟨x, hx⟩ := get_lt hn hlt
  by_cases hok : arOk n x = true
  ·skip
   apply AW.sr
   refine AL.z ?_
   apply AL.nil
   try simp only [nd]
   apply AW.seq
   refine AW.condT rfl ?_
   apply AW.skip
   try simp only [thenS]
   apply AW.seq
   apply AW.block
   apply AW.sr
   iterate 2 refine AL.z ?_
   apply AL.nil
   try simp only [nd]
   apply AW.sr
   iterate 5 refine AL.z ?_
   refine AL.call (post := ?pc49) rfl (sm_callv (args := [_]) ?hc49 ⟨Tryz.func63, rfl, rfl, rfl, rfl⟩ rfl rfl rfl rfl) ?_
   case hc49 => exact (am_Check1 _ _)
   rintro _ rfl -
   try dsimp only
   apply AL.nil
   try simp only [nd, setL, V.cs, nz, Nat.reduceAdd, nm, ns]
   simp only [hok, Bool.not_true]
   refine AW.condF rfl ?_
   apply AW.skip
   try simp only [thenS]
   apply AW.region
   iterate 2 refine AL.z ?_
   apply AL.nil
   try simp only [nd]
   refine ⟨_, ?_, ⟨k + 1, by omega, all_snoc' hx hall hok, rfl⟩, ?_⟩
   ·exact Less.a0
   simp [S.nat, fnd]; omega
  have hok' : arOk n x = false := by simpa using hok
  have hal : l.all (arOk n) = false := all_not hx hok'
  apply AW.sr
  refine AL.z ?_
  apply AL.nil
  try simp only [nd]
  apply AW.seq
  refine AW.condT rfl ?_
  apply AW.skip
  try simp only [thenS]
  apply AW.seq
  apply AW.block
  apply AW.sr
  iterate 2 refine AL.z ?_
  apply AL.nil
  try simp only [nd]
  apply AW.sr
  iterate 5 refine AL.z ?_
  refine AL.call (post := ?pc50) rfl (sm_callv (args := [_]) ?hc50 ⟨Tryz.func63, rfl, rfl, rfl, rfl⟩ rfl rfl rfl rfl) ?_
  case hc50 => exact (am_Check1 _ _)
  rintro _ rfl -
  try dsimp only
  apply AL.nil
  try simp only [nd, setL, V.cs, nz, Nat.reduceAdd, nm, ns]
  simp only [hok', Bool.not_false]
  refine AW.condT rfl ?_
  apply AW.sr
  iterate 2 refine AL.z ?_
  apply AL.nil
  try simp only [nd]
  apply AW.ret
  exact ⟨[_], ⟨rfl, trivial⟩, ⟨k, rfl, by simp [hal]⟩, by simp [tupOf, V.pure, V.has]⟩
 have hA : l.all (arOk n) = true := by rwa [List.take_of_length_le zT15] at hall
 apply AW.sr
 refine AL.z ?_
 apply AL.nil
 try simp only [nd]
 apply AW.seq
 refine AW.condF rfl ?_
 refine AW.exit ?_
 try simp only [thenS, inBlockS, ↓reduceIte, Nat.reduceEqDiff]
 apply AW.sr
 refine AL.z ?_
 apply AL.nil
 try simp only [nd]
 apply AW.ret
 exact ⟨[_], ⟨rfl, trivial⟩, ⟨-1, rfl, by simp [hA]⟩, by simp [tupOf, V.pure, V.has]⟩
theorem am_ContainsFunc (l : List Ar) (n : Int) : Fn Tryz.prog 62 [.d (arsD l), .fn 63 [.ad [.p (.int .i64 n)]]] (fun v => v = .b (!l.all (arOk n))) := by
 refine Fn.intro (n := 9) ⟨Tryz.func62, rfl, rfl, rfl, rfl⟩ zT8 zT16 fun w0 out => ?_
 apply AW.sr
 refine AL.z ?_
 apply AL.nil
 try simp only [thenS, S.put, enum, List.nil_append, List.cons_append, List.append_nil, Nat.zero_add, Nat.reduceAdd]
 apply AW.sr
 iterate 2 refine AL.z ?_
 refine AL.call (post := ?pc51) rfl (sm_call (args := [_, _]) ?hc51 ⟨Tryz.func100, rfl, rfl, rfl, rfl⟩ rfl rfl rfl rfl) ?_
 case hc51 => exact am_IndexFunc _ _
 rintro _ ⟨i, rfl, hi⟩ -
 try dsimp only
 refine AL.rp rfl rfl (rp_geq rfl rfl rfl) ?_
 refine AL.z ?_
 apply AL.nil
 try simp only [nd, setL, V.cs, nz, Nat.reduceAdd, nm, ns]
 apply AW.ret
 exact ⟨[_], ⟨rfl, trivial⟩, by rw [← hi]; rfl, by simp [tupOf, V.pure, V.has]⟩
theorem am_Check (m : Mach) : Fn Tryz.prog 27 [mV m] (fun v => v = .i (machE m)) := by
 refine Fn.mach m 0 rfl fun hsl hal => ?_
 obtain ⟨st, sts⟩ := m
 simp only at hsl hal ⊢
 obtain ⟨len, hl⟩ : ∃ n, sts.length = n := ⟨_, rfl⟩
 rw [hl] at hsl
 refine Fn.intro (n := 59) ⟨Tryz.func27, rfl, rfl, rfl, rfl⟩ zT8 zT16 fun w0 out => ?_
 by_cases h60 : 60 < len
 ·skip
  apply AW.sr
  refine AL.sm rfl (sm_box 1 rfl rfl rfl rfl rfl) ?_
  refine AL.z ?_
  apply AL.nil
  try simp only [nd, setL, V.cs, nz, Nat.reduceAdd, nm, ns, enum]
  apply AW.sr
  iterate 3 refine AL.z ?_
  refine AL.sm rfl (sm_alloc (l := [.d (.p (.int .i64 0))]) 3 inf3 rfl rfl rfl rfl) ?_
  (refine AL.st rfl (st_store inf3 rfl rfl rfl rfl rfl rfl rfl zT7 rfl) ?_)
  refine AL.z ?_
  apply AL.nil
  try simp only [nd, setL, V.cs, nz, Nat.reduceAdd, nm, ns]
  apply AW.seq
  apply AW.sr
  iterate 2 refine AL.z ?_
  apply AL.nil
  try simp only [nd]
  refine AW.condT rfl ?_
  apply AW.sr
  refine AL.z ?_
  apply AL.nil
  try simp only [nd]
  apply AW.ret
  exact ⟨[_], ⟨rfl, trivial⟩, by rw [machE_size (.inl (by rw [hl]; exact h60))]; rfl, by simp [tupOf, V.pure, V.has]⟩
 skip
 apply AW.sr
 refine AL.sm rfl (sm_box 1 rfl rfl rfl rfl rfl) ?_
 refine AL.z ?_
 apply AL.nil
 try simp only [nd, setL, V.cs, nz, Nat.reduceAdd, nm, ns, enum]
 apply AW.sr
 iterate 3 refine AL.z ?_
 refine AL.sm rfl (sm_alloc (l := [.d (.p (.int .i64 0))]) 3 inf3 rfl rfl rfl rfl) ?_
 (refine AL.st rfl (st_store inf3 rfl rfl rfl rfl rfl rfl rfl zT7 rfl) ?_)
 refine AL.z ?_
 apply AL.nil
 try simp only [nd, setL, V.cs, nz, Nat.reduceAdd, nm, ns]
 apply AW.seq
 apply AW.sr
 iterate 2 refine AL.z ?_
 apply AL.nil
 try simp only [nd]
 refine AW.condF rfl ?_
 apply AW.skip
 try simp only [thenS]
 apply AW.seq
 apply AW.sr
 iterate 4 refine AL.z ?_
 apply AL.nil
 try simp only [nd]
 apply AW.block
 refine AW.loop (fun s' => ∃ k : Nat, k ≤ len ∧ arcN (sts.take k) ≤ k * 4398046511104 ∧ s' = ⟨59, [(1, .ref 1 0), (3, .ref 3 0), (4, .i (arcN (sts.take k))), (15, .d (stsD sts)), (16, .i len), (17, .i k)], [(1, ⟨24, [.i st, .d (stsD sts)], false, 0⟩), (3, ⟨3, [.i len], false, 0⟩)], []⟩) (fun s' => len - s'.nat 17) ⟨_, ?_, 0, by omega, by simp [arcN], rfl⟩ ?_
 ·exact Less.a0
 rintro s' ⟨k, hk, hs, rfl⟩
 by_cases hlt : k < len
 ·obtain ⟨x, hx⟩ := get_lt hl hlt
  obtain ⟨la, hla⟩ : ∃ n, x.arcs.length = n := ⟨_, rfl⟩
  have hla' := hal x (List.mem_of_getElem? hx)
  have hsn : arcN (sts.take (k + 1)) = arcN (sts.take k) + la := by rw [take_snoc hx, arcN_snoc, hla]
  apply AW.sr
  refine AL.z ?_
  apply AL.nil
  try simp only [nd]
  apply AW.seq
  refine AW.condT rfl ?_
  apply AW.skip
  try simp only [thenS]
  apply AW.seq
  apply AW.block
  apply AW.sr
  iterate 2 refine AL.z ?_
  refine AL.sm rfl (sm_alloc (l := [.d (.p (.int .i64 0)), .d (.p (.slice none 0 0))]) 6 inf35 rfl rfl rfl rfl) ?_
  refine AL.y ?_
  apply AL.nil
  try simp only [nd, setL, V.cs, nz, Nat.reduceAdd, nm, ns]
  apply AW.region
  iterate 6 refine AL.z ?_
  apply AL.nil
  try simp only [nd]
  apply AW.region
  iterate 2 refine AL.z ?_
  apply AL.nil
  try simp only [nd]
  refine ⟨_, ?_, ⟨k + 1, by omega, by omega, rfl⟩, ?_⟩
  ·rw [hsn]; exact Less.a0
  simp [S.nat, fnd]; omega
 rw [arcN_full hl hlt]
 by_cases h400 : 400 < arcN sts
 ·skip
  apply AW.sr
  refine AL.z ?_
  apply AL.nil
  try simp only [nd]
  apply AW.seq
  refine AW.condF rfl ?_
  refine AW.exit ?_
  try simp only [thenS, inBlockS, ↓reduceIte, Nat.reduceEqDiff]
  apply AW.seq
  apply AW.sr
  iterate 2 refine AL.z ?_
  apply AL.nil
  try simp only [nd]
  refine AW.condT rfl ?_
  apply AW.sr
  refine AL.z ?_
  apply AL.nil
  try simp only [nd]
  apply AW.ret
  exact ⟨[_], ⟨rfl, trivial⟩, by rw [machE_size (.inr h400)]; rfl, by simp [tupOf, V.pure, V.has]⟩
 by_cases hst : -1 ≤ st
 ·by_cases hst2 : st < (len : Int)
  ·skip
   apply AW.sr
   refine AL.z ?_
   apply AL.nil
   try simp only [nd]
   apply AW.seq
   refine AW.condF rfl ?_
   refine AW.exit ?_
   try simp only [thenS, inBlockS, ↓reduceIte, Nat.reduceEqDiff]
   apply AW.seq
   apply AW.sr
   iterate 2 refine AL.z ?_
   apply AL.nil
   try simp only [nd]
   refine AW.condF rfl ?_
   apply AW.skip
   try simp only [thenS]
   apply AW.seq
   apply AW.sr
   iterate 4 refine AL.z ?_
   iterate 4 refine AL.zy ?_
   refine AL.z ?_
   apply AL.nil
   try simp only [nd]
   refine AW.condF rfl ?_
   apply AW.skip
   try simp only [thenS]
   apply AW.seq
   apply AW.sr
   iterate 4 refine AL.z ?_
   apply AL.nil
   try simp only [nd]
   apply AW.block
   refine AW.loop (fun s' => ∃ k : Nat, k ≤ len ∧ (sts.take k).all (stOk len) = true ∧ s' = ⟨59, [(1, .ref 1 0), (3, .ref 3 0), (39, .d (stsD sts)), (40, .i len), (41, .i k)], [(1, ⟨24, [.i st, .d (stsD sts)], false, 0⟩), (3, ⟨3, [.i len], false, 0⟩)], []⟩) (fun s' => len - s'.nat 41) ⟨_, ?_, 0, by omega, by simp, rfl⟩ ?_
   ·exact Less.a0
   clear hlt hk hs k
   rintro s' ⟨k, hk, hall, rfl⟩
   by_cases hlt : k < len
   ·obtain ⟨x, hx⟩ := get_lt hl hlt
    by_cases hf : 0 ≤ x.fin ∧ x.fin ≤ 1000000001
    ·have hf1 : finOk x.fin = true := by simp [finOk]; omega
     by_cases hA : x.arcs.all (arOk len) = true
     ·by_cases hf2 : 0 ≤ x.fin ∧ x.fin ≤ 1000000000
      ·skip
       apply AW.sr
       refine AL.z ?_
       apply AL.nil
       try simp only [nd]
       apply AW.seq
       refine AW.condT rfl ?_
       apply AW.skip
       try simp only [thenS]
       apply AW.seq
       apply AW.block
       apply AW.sr
       iterate 2 refine AL.z ?_
       refine AL.sm rfl (sm_alloc (l := [.d (.p (.int .i64 0)), .d (.p (.slice none 0 0))]) 8 inf35 rfl rfl rfl rfl) ?_
       refine AL.y ?_
       apply AL.nil
       try simp only [nd, setL, V.cs, nz, Nat.reduceAdd, nm, ns]
       apply AW.seq
       apply AW.sr
       iterate 2 refine AL.z ?_
       refine AL.call (post := ?pc52) rfl (sm_call (args := [_]) ?hc52 ⟨Tryz.func61, rfl, rfl, rfl, rfl⟩ rfl rfl rfl rfl) ?_
       case hc52 => first | (refine Fn.decT (am_weight _) ?_; omega) | (refine Fn.decF (am_weight _) ?_; omega) | exact am_weight _
       rintro _ rfl -
       try dsimp only
       iterate 2 refine AL.z ?_
       refine AL.no rfl rfl rfl rfl ?_
       refine AL.no rfl rfl rfl rfl ?_
       refine AL.no rfl rfl rfl rfl ?_
       refine AL.z ?_
       apply AL.nil
       try simp only [nd, setL, V.cs, nz, Nat.reduceAdd, nm, ns]
       refine AW.condF rfl ?_
       apply AW.skip
       try simp only [thenS]
       apply AW.sr
       iterate 2 refine AL.z ?_
       refine AL.rp rfl rfl (rp_func (vs := [_]) rfl rfl) ?_
       refine AL.call (post := ?pc53) rfl (sm_callr (args := ?ac53) (us := [_, _]) ?hc53 ?qc53 ⟨Tryz.func62, rfl, rfl, rfl, rfl⟩ rfl rfl rfl ?rc53 rfl) ?_
       case hc53 => exact am_ContainsFunc x.arcs len
       case qc53 => (intro v hv; first | (subst hv; first | trivial | (simp [V.plain]; done)) | (obtain ⟨_, rfl, _⟩ := hv; first | trivial | (simp [V.plain]; done)))
       case rc53 => exact .cons (.refl _ (by simp [V.pure, V.has])) (.cons (Ro.fns (.cons (.ref 3 0 _ [.p (.int .i64 len)] rfl rfl rfl) .nil)) .nil)
       rintro _ rfl -
       try dsimp only
       apply AL.nil
       try simp only [nd, setL, V.cs, nz, Nat.reduceAdd, nm, ns]
       simp only [hA, Bool.not_true]
       refine AW.condF rfl ?_
       apply AW.skip
       try simp only [thenS]
       apply AW.region
       iterate 2 refine AL.z ?_
       apply AL.nil
       try simp only [nd]
       refine ⟨_, ?_, ⟨k + 1, by omega, all_snoc' hx hall (stOk_yes hf1 hA), rfl⟩, ?_⟩
       ·exact Less.a0
       simp [S.nat, fnd]; omega
      skip
      apply AW.sr
      refine AL.z ?_
      apply AL.nil
      try simp only [nd]
      apply AW.seq
      refine AW.condT rfl ?_
      apply AW.skip
      try simp only [thenS]
      apply AW.seq
      apply AW.block
      apply AW.sr
      iterate 2 refine AL.z ?_
      refine AL.sm rfl (sm_alloc (l := [.d (.p (.int .i64 0)), .d (.p (.slice none 0 0))]) 8 inf35 rfl rfl rfl rfl) ?_
      refine AL.y ?_
      apply AL.nil
      try simp only [nd, setL, V.cs, nz, Nat.reduceAdd, nm, ns]
      apply AW.seq
      apply AW.sr
      iterate 2 refine AL.z ?_
      refine AL.call (post := ?pc54) rfl (sm_call (args := [_]) ?hc54 ⟨Tryz.func61, rfl, rfl, rfl, rfl⟩ rfl rfl rfl rfl) ?_
      case hc54 => first | (refine Fn.decT (am_weight _) ?_; omega) | (refine Fn.decF (am_weight _) ?_; omega) | exact am_weight _
      rintro _ rfl -
      try dsimp only
      iterate 2 refine AL.z ?_
      iterate 3 refine AL.zy ?_
      refine AL.z ?_
      apply AL.nil
      try simp only [nd, setL, V.cs, nz, Nat.reduceAdd, nm, ns]
      refine AW.condF rfl ?_
      apply AW.skip
      try simp only [thenS]
      apply AW.sr
      iterate 2 refine AL.z ?_
      refine AL.rp rfl rfl (rp_func (vs := [_]) rfl rfl) ?_
      refine AL.call (post := ?pc55) rfl (sm_callr (args := ?ac55) (us := [_, _]) ?hc55 ?qc55 ⟨Tryz.func62, rfl, rfl, rfl, rfl⟩ rfl rfl rfl ?rc55 rfl) ?_
      case hc55 => exact am_ContainsFunc x.arcs len
      case qc55 => (intro v hv; first | (subst hv; first | trivial | (simp [V.plain]; done)) | (obtain ⟨_, rfl, _⟩ := hv; first | trivial | (simp [V.plain]; done)))
      case rc55 => exact .cons (.refl _ (by simp [V.pure, V.has])) (.cons (Ro.fns (.cons (.ref 3 0 _ [.p (.int .i64 len)] rfl rfl rfl) .nil)) .nil)
      rintro _ rfl -
      try dsimp only
      apply AL.nil
      try simp only [nd, setL, V.cs, nz, Nat.reduceAdd, nm, ns]
      simp only [hA, Bool.not_true]
      refine AW.condF rfl ?_
      apply AW.skip
      try simp only [thenS]
      apply AW.region
      iterate 2 refine AL.z ?_
      apply AL.nil
      try simp only [nd]
      refine ⟨_, ?_, ⟨k + 1, by omega, all_snoc' hx hall (stOk_yes hf1 hA), rfl⟩, ?_⟩
      ·exact Less.a0
      simp [S.nat, fnd]; omega
     have hA' : x.arcs.all (arOk len) = false := by simpa using hA
     by_cases hf2 : 0 ≤ x.fin ∧ x.fin ≤ 1000000000
     ·have hE : machE ⟨st, sts⟩ = 2 := machE_state hl h60 h400 hx (stOk_arcs hA')
      rw [hE]
      apply AW.sr
      refine AL.z ?_
      apply AL.nil
      try simp only [nd]
      apply AW.seq
      refine AW.condT rfl ?_
      apply AW.skip
      try simp only [thenS]
      apply AW.seq
      apply AW.block
      apply AW.sr
      iterate 2 refine AL.z ?_
      refine AL.sm rfl (sm_alloc (l := [.d (.p (.int .i64 0)), .d (.p (.slice none 0 0))]) 8 inf35 rfl rfl rfl rfl) ?_
      refine AL.y ?_
      apply AL.nil
      try simp only [nd, setL, V.cs, nz, Nat.reduceAdd, nm, ns]
      apply AW.seq
      apply AW.sr
      iterate 2 refine AL.z ?_
      refine AL.call (post := ?pc56) rfl (sm_call (args := [_]) ?hc56 ⟨Tryz.func61, rfl, rfl, rfl, rfl⟩ rfl rfl rfl rfl) ?_
      case hc56 => first | (refine Fn.decT (am_weight _) ?_; omega) | (refine Fn.decF (am_weight _) ?_; omega) | exact am_weight _
      rintro _ rfl -
      try dsimp only
      iterate 2 refine AL.z ?_
      refine AL.no rfl rfl rfl rfl ?_
      refine AL.no rfl rfl rfl rfl ?_
      refine AL.no rfl rfl rfl rfl ?_
      refine AL.z ?_
      apply AL.nil
      try simp only [nd, setL, V.cs, nz, Nat.reduceAdd, nm, ns]
      refine AW.condF rfl ?_
      apply AW.skip
      try simp only [thenS]
      apply AW.sr
      iterate 2 refine AL.z ?_
      refine AL.rp rfl rfl (rp_func (vs := [_]) rfl rfl) ?_
      refine AL.call (post := ?pc57) rfl (sm_callr (args := ?ac57) (us := [_, _]) ?hc57 ?qc57 ⟨Tryz.func62, rfl, rfl, rfl, rfl⟩ rfl rfl rfl ?rc57 rfl) ?_
      case hc57 => exact am_ContainsFunc x.arcs len
      case qc57 => (intro v hv; first | (subst hv; first | trivial | (simp [V.plain]; done)) | (obtain ⟨_, rfl, _⟩ := hv; first | trivial | (simp [V.plain]; done)))
      case rc57 => exact .cons (.refl _ (by simp [V.pure, V.has])) (.cons (Ro.fns (.cons (.ref 3 0 _ [.p (.int .i64 len)] rfl rfl rfl) .nil)) .nil)
      rintro _ rfl -
      try dsimp only
      apply AL.nil
      try simp only [nd, setL, V.cs, nz, Nat.reduceAdd, nm, ns]
      simp only [hA', Bool.not_false]
      refine AW.condT rfl ?_
      apply AW.sr
      refine AL.z ?_
      apply AL.nil
      try simp only [nd]
      apply AW.ret
      exact ⟨[_], ⟨rfl, trivial⟩, rfl, by simp [tupOf, V.pure, V.has]⟩
     have hE : machE ⟨st, sts⟩ = 2 := machE_state hl h60 h400 hx (stOk_arcs hA')
     rw [hE]
     apply AW.sr
     refine AL.z ?_
     apply AL.nil
     try simp only [nd]
     apply AW.seq
     refine AW.condT rfl ?_
     apply AW.skip
     try simp only [thenS]
     apply AW.seq
     apply AW.block
     apply AW.sr
     iterate 2 refine AL.z ?_
     refine AL.sm rfl (sm_alloc (l := [.d (.p (.int .i64 0)), .d (.p (.slice none 0 0))]) 8 inf35 rfl rfl rfl rfl) ?_
     refine AL.y ?_
     apply AL.nil
     try simp only [nd, setL, V.cs, nz, Nat.reduceAdd, nm, ns]
     apply AW.seq
     apply AW.sr
     iterate 2 refine AL.z ?_
     refine AL.call (post := ?pc58) rfl (sm_call (args := [_]) ?hc58 ⟨Tryz.func61, rfl, rfl, rfl, rfl⟩ rfl rfl rfl rfl) ?_
     case hc58 => first | (refine Fn.decT (am_weight _) ?_; omega) | (refine Fn.decF (am_weight _) ?_; omega) | exact am_weight _
     rintro _ rfl -
     try dsimp only
     iterate 2 refine AL.z ?_
     iterate 3 refine AL.zy ?_
     refine AL.z ?_
     apply AL.nil
     try simp only [nd, setL, V.cs, nz, Nat.reduceAdd, nm, ns]
     refine AW.condF rfl ?_
     apply AW.skip
     try simp only [thenS]
     apply AW.sr
     iterate 2 refine AL.z ?_
     refine AL.rp rfl rfl (rp_func (vs := [_]) rfl rfl) ?_
     refine AL.call (post := ?pc59) rfl (sm_callr (args := ?ac59) (us := [_, _]) ?hc59 ?qc59 ⟨Tryz.func62, rfl, rfl, rfl, rfl⟩ rfl rfl rfl ?rc59 rfl) ?_
     case hc59 => exact am_ContainsFunc x.arcs len
     case qc59 => (intro v hv; first | (subst hv; first | trivial | (simp [V.plain]; done)) | (obtain ⟨_, rfl, _⟩ := hv; first | trivial | (simp [V.plain]; done)))
     case rc59 => exact .cons (.refl _ (by simp [V.pure, V.has])) (.cons (Ro.fns (.cons (.ref 3 0 _ [.p (.int .i64 len)] rfl rfl rfl) .nil)) .nil)
     rintro _ rfl -
     try dsimp only
     apply AL.nil
     try simp only [nd, setL, V.cs, nz, Nat.reduceAdd, nm, ns]
     simp only [hA', Bool.not_false]
     refine AW.condT rfl ?_
     apply AW.sr
     refine AL.z ?_
     apply AL.nil
     try simp only [nd]
     apply AW.ret
     exact ⟨[_], ⟨rfl, trivial⟩, rfl, by simp [tupOf, V.pure, V.has]⟩
    have hE : machE ⟨st, sts⟩ = 2 := machE_state hl h60 h400 hx (stOk_fin (by simp [finOk]; omega))
    rw [hE]
    apply AW.sr
    refine AL.z ?_
    apply AL.nil
    try simp only [nd]
    apply AW.seq
    refine AW.condT rfl ?_
    apply AW.skip
    try simp only [thenS]
    apply AW.seq
    apply AW.block
    apply AW.sr
    iterate 2 refine AL.z ?_
    refine AL.sm rfl (sm_alloc (l := [.d (.p (.int .i64 0)), .d (.p (.slice none 0 0))]) 8 inf35 rfl rfl rfl rfl) ?_
    refine AL.y ?_
    apply AL.nil
    try simp only [nd, setL, V.cs, nz, Nat.reduceAdd, nm, ns]
    apply AW.seq
    apply AW.sr
    iterate 2 refine AL.z ?_
    refine AL.call (post := ?pc60) rfl (sm_call (args := [_]) ?hc60 ⟨Tryz.func61, rfl, rfl, rfl, rfl⟩ rfl rfl rfl rfl) ?_
    case hc60 => first | (refine Fn.decT (am_weight _) ?_; omega) | (refine Fn.decF (am_weight _) ?_; omega) | exact am_weight _
    rintro _ rfl -
    try dsimp only
    iterate 2 refine AL.z ?_
    iterate 3 refine AL.zy ?_
    refine AL.z ?_
    apply AL.nil
    try simp only [nd, setL, V.cs, nz, Nat.reduceAdd, nm, ns]
    refine AW.condT rfl ?_
    apply AW.sr
    refine AL.z ?_
    apply AL.nil
    try simp only [nd]
    apply AW.ret
    exact ⟨[_], ⟨rfl, trivial⟩, rfl, by simp [tupOf, V.pure, V.has]⟩
   skip
   apply AW.sr
   refine AL.z ?_
   apply AL.nil
   try simp only [nd]
   apply AW.seq
   refine AW.condF rfl ?_
   refine AW.exit ?_
   try simp only [thenS, inBlockS, ↓reduceIte, Nat.reduceEqDiff]
   apply AW.sr
   refine AL.z ?_
   apply AL.nil
   try simp only [nd]
   apply AW.ret
   exact ⟨[_], ⟨rfl, trivial⟩, by rw [machE_good hl h60 h400 zT15 hlt hall]; rfl, by simp [tupOf, V.pure, V.has]⟩
  skip
  apply AW.sr
  refine AL.z ?_
  apply AL.nil
  try simp only [nd]
  apply AW.seq
  refine AW.condF rfl ?_
  refine AW.exit ?_
  try simp only [thenS, inBlockS, ↓reduceIte, Nat.reduceEqDiff]
  apply AW.seq
  apply AW.sr
  iterate 2 refine AL.z ?_
  apply AL.nil
  try simp only [nd]
  refine AW.condF rfl ?_
  apply AW.skip
  try simp only [thenS]
  apply AW.seq
  apply AW.sr
  iterate 4 refine AL.z ?_
  iterate 4 refine AL.zy ?_
  refine AL.z ?_
  apply AL.nil
  try simp only [nd]
  refine AW.condT rfl ?_
  apply AW.sr
  refine AL.z ?_
  apply AL.nil
  try simp only [nd]
  apply AW.ret
  exact ⟨[_], ⟨rfl, trivial⟩, by rw [machE_start hl h60 h400 zT15]; rfl, by simp [tupOf, V.pure, V.has]⟩
 skip
 apply AW.sr
 refine AL.z ?_
 apply AL.nil
 try simp only [nd]
 apply AW.seq
 refine AW.condF rfl ?_
 refine AW.exit ?_
 try simp only [thenS, inBlockS, ↓reduceIte, Nat.reduceEqDiff]
 apply AW.seq
 apply AW.sr
 iterate 2 refine AL.z ?_
 apply AL.nil
 try simp only [nd]
 refine AW.condF rfl ?_
 apply AW.skip
 try simp only [thenS]
 apply AW.seq
 apply AW.sr
 iterate 4 refine AL.z ?_
 refine AL.no rfl rfl rfl rfl ?_
 refine AL.no rfl rfl rfl rfl ?_
 refine AL.no rfl rfl rfl rfl ?_
 refine AL.no rfl rfl rfl rfl ?_
 refine AL.z ?_
 apply AL.nil
 try simp only [nd]
 refine AW.condT rfl ?_
 apply AW.sr
 refine AL.z ?_
 apply AL.nil
 try simp only [nd]
 apply AW.ret
 exact ⟨[_], ⟨rfl, trivial⟩, by rw [machE_start hl h60 h400 zT15]; rfl, by simp [tupOf, V.pure, V.has]⟩
structure Mk where
  s : Int
  w : Int
  o : List Int
structure Rn where
  f : Int
  ms : List Mk
def cmpI (a b : Int) : Int := if a < b then -1 else if b < a then 1 else 0
theorem cmpI_self (a : Int) : cmpI a a = 0 := by simp [cmpI]
theorem cmpI_ne {a b : Int} (h : a ≠ b) : cmpI a b ≠ 0 := by unfold cmpI; split <;> (try split) <;> omega
theorem cmpI_neg {a b : Int} : (cmpI a b < 0) ↔ a < b := by unfold cmpI; split <;> (try split) <;> omega
def orI : List Int → Int
  | [] => 0
  | a :: l => if a = 0 then orI l else a
theorem orI_step {k : Nat} {l : List Int} {x : Int} (hx : l[k]? = some x) (h : x = 0) : orI (l.drop k) = orI (l.drop (k + 1)) := by
  have h1 := (List.getElem?_eq_some_iff.1 hx).1
  rw [List.drop_eq_getElem_cons h1]
  rw [List.getElem?_eq_getElem h1, Option.some.injEq] at hx
  simp [orI, hx, h]
theorem orI_hit {k : Nat} {l : List Int} {x : Int} (hx : l[k]? = some x) (h : x ≠ 0) : orI (l.drop k) = x := by
  have h1 := (List.getElem?_eq_some_iff.1 hx).1
  rw [List.drop_eq_getElem_cons h1]
  rw [List.getElem?_eq_getElem h1, Option.some.injEq] at hx
  simp [orI, hx, h]
theorem orI_end {k : Nat} {l : List Int} (h : l.length ≤ k) : orI (l.drop k) = 0 := by rw [List.drop_of_length_le h]; rfl
section
variable {c : Cx} {s : S} {o : Oper}
/-- Is a slice of plain data nil? Only an empty one may be. -/
theorem sm_eqnil {t t' e : TypeId} {x y : Operand} {sz bt : Nat} {rows : List (List D)} (hu : c.P.underlying t = some (.slice e)) (ho : o.op = .binOp .eql t x y t') (hx : s.ev x = some (.d (.sl sz bt rows))) (hy : s.ev y = some .nil) (hd : dok s o = true) :
  StepM c o s (fun s' => ∃ v, (∃ b : Bool, v = .b b ∧ (b = true → rows = [])) ∧ v.pure ∧ s' = s.put o.dst v) := by
 intro g a w hs K Q hK
 have h := hs.ev hx
 have hyv := VRep.p_eq (hs.ev hy)
 have hrun : ∀ (ad : Option Addr) (n cap : Nat), (binOp .eql t (.slice ad n cap) (.slice none 0 0)).run c.P w = .ok (.bool ad.isNone) w := by
  intro ad n cap
  have key : ∀ d : Nat, (Op.equalIn (d + 1) t (.slice ad n cap) (.slice none 0 0)).run c.P w = .ok ad.isNone w := fun d => by
   cases ad <;> simp [Op.equalIn, run_underlying hu]
  have h2 : (Op.equal t (.slice ad n cap) (.slice none 0 0)).run c.P w = .ok ad.isNone w := key 9999
  simp only [binOp, Sem.run_bind, h2, Result.andThen_ok]
  rfl
 have hgd : ∀ (ad : Option Addr) (n cap : Nat), (eqGuard .eql t x y (.slice ad n cap) (.slice none 0 0)).run c.P w = .ok () w := by
  intro ad n cap; simp [eqGuard]
 generalize hxx : a.eval x = u at h
 cases h with
 | d _ _ h =>
  cases h with
  | sl _ _ _ ad cap b o' f _ ha hl hc hr =>
   unfold Oper.wp
   have hexec : (execOp a.eval o).run c.P w = .ok (.value (.bool ad.isNone)) w := by
    simp only [execOp, ho, hxx, hyv, Sem.run_bind, hgd, hrun, Result.andThen_ok]
    rfl
   rw [hexec]
   refine hK g _ _ _ ⟨.b ad.isNone, ⟨_, rfl, fun hb => ?_⟩, by simp [V.pure, V.has], rfl⟩ (hs.put o.dst (dok_spec hd) (.d _ _ (.p _))) (Below.refl _ _)
   by_cases h0 : rows = []
   ·exact h0
   obtain ⟨rfl, _⟩ := ha h0
   cases hb
/-- An empty slice literal. -/
theorem sm_slice0 (r : Nat) {t e : TypeId} {sz bt : Nat} {z : Value} (hu : c.P.underlying t = some (.slice e)) (hi : Inf c.P e sz bt z) (ho : o.op = .buildSlice t 0 #[]) (hr : s.clean r = true) (hd : dok s o = true) :
  StepM c o s (fun s' => s' = s.newObj r ⟨e, [], false, sz⟩ o.dst (.own r sz 0 false)) :=
 (sm_newG (cap := 0) hr rfl rfl hd (fun g a w hs => by
  refine ⟨#[], .slice (some ⟨w.heap.size, 0, none⟩) 0 0, fun _ => by simp, ?_, fun j u hu => by simp at hu, ?_⟩
  ·simp [execOp, ho, Instr.buildSlice, run_underlying hu, run_sizeOf hi, newRow, Instr.fill]
   rw [show (Array.map (fun _ => (default : Value)) (Array.range 0)) = #[] from Array.eq_empty_of_size_eq_zero zT16]
  exact VRep.own (g := fun _ => (w.heap.size, 0)) _ _ _ (Nat.le_refl _) (by simp only [maxLen]; omega)) ⟨0, .inr ⟨_, _, rfl⟩⟩).stepM
/-- append of nothing. -/
theorem rp_append_none {t e : TypeId} {x y : Operand} {r sz bt n sz' bt' : Nat} {z : Value} {f : Bool} (hu : c.P.underlying t = some (.slice e)) (hi : Inf c.P e sz bt z)
  (ho : o.op = .call { callee := .builtin .append, args := #[x, y], argTypes := #[t, t] }) (hx : s.ev x = some (.own r sz n f)) (hy : s.ev y = some (.d (.sl sz' bt' []))) : RP c o s (.own r sz n f) := fun g a w hs => by
 have h := hs.ev hx
 have h2 := hs.ev hy
 obtain ⟨i, hi1, hi2, hi3, hi4⟩ := hi.out
 obtain ⟨ad, cap, hyv⟩ : ∃ ad cap, a.eval y = .slice ad 0 cap := by
  generalize a.eval y = u at h2
  cases h2 with
  | d _ _ h => cases h with | sl _ _ _ ad cap => exact ⟨ad, cap, rfl⟩
 refine ⟨a.eval x, h, fun w' => ?_⟩
 generalize hxx : a.eval x = u at h
 have hsrc : Src c.P i.size t (.slice ad 0 cap) 0 [] w' := by
  cases ad
  ·exact ⟨.inl ⟨e, hu⟩, fun _ => rfl, by simp [Builtin.firstCells, Sem.run], by simp [Builtin.firstCells, Sem.run], by simp, by simp⟩
  exact ⟨.inl ⟨e, hu⟩, fun _ => rfl, by simp [Builtin.firstCells, Sem.run, loadCells, loadCellsFrom], by simp [Builtin.firstCells, Sem.run, loadCells, loadCellsFrom], by simp, by simp⟩
 cases h with
 | own _ _ _ hn hcap =>
  simp only [execOp, ho, resolve, invoke, builtin, Sem.run_bind, Sem.run_pure, Result.andThen_ok, List.map_toArray, List.map_cons, List.map_nil, hxx, hyv]
  rw [run_append_nothing w' t t o.type e i hu hi1 _ n (g r).2 hn _ hsrc]
  rfl
 | ownNil =>
  simp only [execOp, ho, resolve, invoke, builtin, Sem.run_bind, Sem.run_pure, Result.andThen_ok, List.map_toArray, List.map_cons, List.map_nil, hxx, hyv]
  rw [run_append_nothing w' t t o.type e i hu hi1 none 0 0 (Nat.le_refl _) _ hsrc]
  rfl
end
theorem am_isNaN (x : Int) : Fn Tryz.prog 102 [.i x] (fun v => v = .b false) := by
 refine Fn.intro (n := 6) ⟨Tryz.func102, rfl, rfl, rfl, rfl⟩ zT8 zT16 fun w0 out => ?_
 apply AW.sr
 refine AL.z ?_
 apply AL.nil
 try simp only [thenS, S.put, enum, List.nil_append, List.cons_append, List.append_nil, Nat.zero_add, Nat.reduceAdd]
 apply AW.sr
 iterate 4 refine AL.z ?_
 apply AL.nil
 try simp only [nd]
 apply AW.ret
 exact ⟨[_], ⟨rfl, trivial⟩, rfl, by simp [tupOf, V.pure, V.has]⟩
theorem am_cmp (x y : Int) : Fn Tryz.prog 70 [.i x, .i y] (fun v => v = .i (cmpI x y)) := by
 refine Fn.intro (n := 20) ⟨Tryz.func70, rfl, rfl, rfl, rfl⟩ zT8 zT16 fun w0 out => ?_
 by_cases h1 : x < y
 ·skip
  apply AW.sr
  refine AL.z ?_
  apply AL.nil
  try simp only [thenS, S.put, enum, List.nil_append, List.cons_append, List.append_nil, Nat.zero_add, Nat.reduceAdd]
  apply AW.sr
  refine AL.z ?_
  refine AL.call (post := ?pc0) rfl (sm_call (args := [_]) ?hc0 ⟨Tryz.func102, rfl, rfl, rfl, rfl⟩ rfl rfl rfl rfl) ?_
  case hc0 => exact am_isNaN _
  rintro _ rfl -
  try dsimp only
  refine AL.z ?_
  apply AL.nil
  try simp only [nd, setL, V.cs, nz, Nat.reduceAdd, nm, ns]
  apply AW.sr
  refine AL.z ?_
  refine AL.call (post := ?pc1) rfl (sm_call (args := [_]) ?hc1 ⟨Tryz.func102, rfl, rfl, rfl, rfl⟩ rfl rfl rfl rfl) ?_
  case hc1 => exact am_isNaN _
  rintro _ rfl -
  try dsimp only
  refine AL.z ?_
  apply AL.nil
  try simp only [nd, setL, V.cs, nz, Nat.reduceAdd, nm, ns]
  apply AW.seq
  apply AW.sr
  refine AL.z ?_
  apply AL.nil
  try simp only [nd]
  refine AW.condF rfl ?_
  apply AW.skip
  try simp only [thenS]
  apply AW.seq
  apply AW.sr
  refine AL.z ?_
  apply AL.nil
  try simp only [nd]
  refine AW.condF rfl ?_
  apply AW.skip
  try simp only [thenS]
  apply AW.seq
  apply AW.sr
  iterate 3 refine AL.z ?_
  apply AL.nil
  try simp only [nd]
  refine AW.condT rfl ?_
  apply AW.sr
  refine AL.z ?_
  apply AL.nil
  try simp only [nd]
  apply AW.ret
  exact ⟨[_], ⟨rfl, trivial⟩, by simp [tupOf, cmpI, h1], by simp [tupOf, V.pure, V.has]⟩
 by_cases h2 : y < x
 ·skip
  apply AW.sr
  refine AL.z ?_
  apply AL.nil
  try simp only [thenS, S.put, enum, List.nil_append, List.cons_append, List.append_nil, Nat.zero_add, Nat.reduceAdd]
  apply AW.sr
  refine AL.z ?_
  refine AL.call (post := ?pc2) rfl (sm_call (args := [_]) ?hc2 ⟨Tryz.func102, rfl, rfl, rfl, rfl⟩ rfl rfl rfl rfl) ?_
  case hc2 => exact am_isNaN _
  rintro _ rfl -
  try dsimp only
  refine AL.z ?_
  apply AL.nil
  try simp only [nd, setL, V.cs, nz, Nat.reduceAdd, nm, ns]
  apply AW.sr
  refine AL.z ?_
  refine AL.call (post := ?pc3) rfl (sm_call (args := [_]) ?hc3 ⟨Tryz.func102, rfl, rfl, rfl, rfl⟩ rfl rfl rfl rfl) ?_
  case hc3 => exact am_isNaN _
  rintro _ rfl -
  try dsimp only
  refine AL.z ?_
  apply AL.nil
  try simp only [nd, setL, V.cs, nz, Nat.reduceAdd, nm, ns]
  apply AW.seq
  apply AW.sr
  refine AL.z ?_
  apply AL.nil
  try simp only [nd]
  refine AW.condF rfl ?_
  apply AW.skip
  try simp only [thenS]
  apply AW.seq
  apply AW.sr
  refine AL.z ?_
  apply AL.nil
  try simp only [nd]
  refine AW.condF rfl ?_
  apply AW.skip
  try simp only [thenS]
  apply AW.seq
  apply AW.sr
  iterate 3 refine AL.z ?_
  apply AL.nil
  try simp only [nd]
  refine AW.condF rfl ?_
  apply AW.skip
  try simp only [thenS]
  apply AW.seq
  apply AW.sr
  iterate 3 refine AL.z ?_
  apply AL.nil
  try simp only [nd]
  refine AW.condT rfl ?_
  apply AW.sr
  refine AL.z ?_
  apply AL.nil
  try simp only [nd]
  apply AW.ret
  exact ⟨[_], ⟨rfl, trivial⟩, by simp [tupOf, cmpI, h1, h2], by simp [tupOf, V.pure, V.has]⟩
 skip
 apply AW.sr
 refine AL.z ?_
 apply AL.nil
 try simp only [thenS, S.put, enum, List.nil_append, List.cons_append, List.append_nil, Nat.zero_add, Nat.reduceAdd]
 apply AW.sr
 refine AL.z ?_
 refine AL.call (post := ?pc4) rfl (sm_call (args := [_]) ?hc4 ⟨Tryz.func102, rfl, rfl, rfl, rfl⟩ rfl rfl rfl rfl) ?_
 case hc4 => exact am_isNaN _
 rintro _ rfl -
 try dsimp only
 refine AL.z ?_
 apply AL.nil
 try simp only [nd, setL, V.cs, nz, Nat.reduceAdd, nm, ns]
 apply AW.sr
 refine AL.z ?_
 refine AL.call (post := ?pc5) rfl (sm_call (args := [_]) ?hc5 ⟨Tryz.func102, rfl, rfl, rfl, rfl⟩ rfl rfl rfl rfl) ?_
 case hc5 => exact am_isNaN _
 rintro _ rfl -
 try dsimp only
 refine AL.z ?_
 apply AL.nil
 try simp only [nd, setL, V.cs, nz, Nat.reduceAdd, nm, ns]
 apply AW.seq
 apply AW.sr
 refine AL.z ?_
 apply AL.nil
 try simp only [nd]
 refine AW.condF rfl ?_
 apply AW.skip
 try simp only [thenS]
 apply AW.seq
 apply AW.sr
 refine AL.z ?_
 apply AL.nil
 try simp only [nd]
 refine AW.condF rfl ?_
 apply AW.skip
 try simp only [thenS]
 apply AW.seq
 apply AW.sr
 iterate 3 refine AL.z ?_
 apply AL.nil
 try simp only [nd]
 refine AW.condF rfl ?_
 apply AW.skip
 try simp only [thenS]
 apply AW.seq
 apply AW.sr
 iterate 3 refine AL.z ?_
 apply AL.nil
 try simp only [nd]
 refine AW.condF rfl ?_
 apply AW.skip
 try simp only [thenS]
 apply AW.sr
 refine AL.z ?_
 apply AL.nil
 try simp only [nd]
 apply AW.ret
 exact ⟨[_], ⟨rfl, trivial⟩, by simp [tupOf, cmpI, h1, h2], by simp [tupOf, V.pure, V.has]⟩
theorem am_Or (l : List Int) : Fn Tryz.prog 69 [.d (intsD l)] (fun v => v = .i (orI l)) := by
 refine Fn.sl 0 rfl fun hb => ?_
 obtain ⟨len, hn⟩ : ∃ n, l.length = n := ⟨_, rfl⟩
 rw [List.length_map, hn] at hb
 refine Fn.intro (n := 18) ⟨Tryz.func69, rfl, rfl, rfl, rfl⟩ zT8 zT16 fun w0 out => ?_
 apply AW.sr
 refine AL.z ?_
 apply AL.nil
 try simp only [thenS, S.put, enum, List.nil_append, List.cons_append, List.append_nil, Nat.zero_add, Nat.reduceAdd]
 apply AW.sr
 refine AL.z ?_
 apply AL.nil
 try simp only [nd]
 apply AW.seq
 apply AW.sr
 iterate 3 refine AL.z ?_
 apply AL.nil
 try simp only [nd]
 apply AW.block
 refine AW.loop (fun s' => ∃ k : Nat, k ≤ len ∧ orI (l.drop k) = orI l ∧ s' = ⟨18, [(3, .i 0), (6, .d (intsD l)), (7, .i len), (8, .i k)], [], []⟩) (fun s' => len - s'.nat 8) ⟨_, ?_, 0, by omega, by simp, rfl⟩ ?_
 ·exact Less.a0
 rintro s' ⟨k, hk, hor, rfl⟩
 by_cases hlt : k < len
 ·obtain ⟨x, hx⟩ := get_lt hn hlt
  by_cases h0 : x = 0
  ·skip
   apply AW.sr
   refine AL.z ?_
   apply AL.nil
   try simp only [nd]
   apply AW.seq
   refine AW.condT rfl ?_
   apply AW.skip
   try simp only [thenS]
   apply AW.seq
   apply AW.block
   apply AW.sr
   iterate 3 refine AL.z ?_
   apply AL.nil
   try simp only [nd]
   apply AW.sr
   iterate 3 refine AL.z ?_
   apply AL.nil
   try simp only [nd]
   refine AW.condF rfl ?_
   apply AW.skip
   try simp only [thenS]
   apply AW.region
   iterate 2 refine AL.z ?_
   apply AL.nil
   try simp only [nd]
   refine ⟨_, ?_, ⟨k + 1, by omega, by rw [← orI_step hx h0]; exact hor, rfl⟩, ?_⟩
   ·exact Less.a0
   simp [S.nat, fnd]; omega
  have hE := orI_hit hx h0
  rw [hor] at hE
  apply AW.sr
  refine AL.z ?_
  apply AL.nil
  try simp only [nd]
  apply AW.seq
  refine AW.condT rfl ?_
  apply AW.skip
  try simp only [thenS]
  apply AW.seq
  apply AW.block
  apply AW.sr
  iterate 3 refine AL.z ?_
  apply AL.nil
  try simp only [nd]
  apply AW.sr
  iterate 3 refine AL.z ?_
  apply AL.nil
  try simp only [nd]
  refine AW.condT rfl ?_
  apply AW.sr
  iterate 2 refine AL.z ?_
  apply AL.nil
  try simp only [nd]
  apply AW.ret
  exact ⟨[_], ⟨rfl, trivial⟩, by rw [hE]; rfl, by simp [tupOf, V.pure, V.has]⟩
 have hE := orI_end (l := l) (k := k) zT15
 rw [hor] at hE
 apply AW.sr
 refine AL.z ?_
 apply AL.nil
 try simp only [nd]
 apply AW.seq
 refine AW.condF rfl ?_
 refine AW.exit ?_
 try simp only [thenS, inBlockS, ↓reduceIte, Nat.reduceEqDiff]
 apply AW.sr
 iterate 2 refine AL.z ?_
 apply AL.nil
 try simp only [nd]
 apply AW.ret
 exact ⟨[_], ⟨rfl, trivial⟩, by rw [hE]; rfl, by simp [tupOf, V.pure, V.has]⟩
section
variable {c : Cx} {s : S} {Q : Exit → S → Prop} {ops : Array Oper} {L : List Oper} {need : Nat → Bool} {l : List (Nat × Nat)} {i : Nat} {o : Oper} {T : (Nat → Nat × Nat) → World → Prop}
/-- With a relation of the region's own. -/
def AT (T : (Nat → Nat × Nat) → World → Prop) (c : Cx) (ops : Array Oper) (Q : Exit → S → Prop) (need : Nat → Bool) (l : List (Nat × Nat)) (s : S) : Prop := ∀ g a w, Sim c g s a w → ASeqF c.P ops (QQ c Q) (T g) need l a w
theorem AW.drawG {id : Nat} {l : List Oper} (T : (Nat → Nat × Nat) → World → Prop) (order : List (Nat × Nat)) (need : Nat → Bool) (N : Nat) (hm : c.P.follows .mixedOrders = true) (hsel : Region.noSelect l.toArray = true) (hlen : order.length = l.length)
    (hok : okF .any l.toArray need N order (Array.replicate l.length false) = true) (h : AT T c l.toArray Q need order s) : AW c (.region id l.toArray true) Q s := by
  intro g a w hs
  refine wp_region_any hm ?_
  have hs' : Sim c g s a w.drew := hs.move (Below.drew (Below.refl _ _))
  have := any_of_anyF _ _ _ _ (anyF_of (P := c.P) (Q := QQ c Q) (T := T g) (need := need) (md := .any) hsel order (Array.replicate l.length false) a w.drew (by
    intro j oj _ hl
    rw [Array.getD_eq_getD_getElem?, Array.getElem?_replicate] at hl
    split at hl <;> simp at hl) hok (h g a _ hs'))
  rw [hlen] at this
  simpa using this
theorem AT.rp {v : V} (hi : L[i]? = some o) (hg : o.guard = none) (hd : dok s o = true) (hp : noP Q) (h : RP c o s v) (hN : AT T c L.toArray Q need l (s.put o.dst v)) : AT T c L.toArray Q need ((i, 2) :: l) s := fun g a w hs => by
  obtain ⟨x, h1, h2⟩ := h g a w hs
  exact ⟨o, x, by simpa using hi, .inl ⟨by simp [Region.wanted, hg], fun w' _ => h2 w'⟩, QQ_noP hp _ _, hN g _ w (hs.put o.dst (dok_spec hd) h1)⟩
theorem AT.rd0T {v : V} (hi : L[i]? = some o) (hg : o.guard = none) (hd : dok s o = true) (h : RD c o s v) (hN : AT T c L.toArray Q need l (s.put o.dst v)) : AT T c L.toArray Q need ((i, 0) :: l) s := fun g a w hs => by
  obtain ⟨x, h1, h2⟩ := h g a w hs
  refine wpOp_of (by simpa using hi) hg ?_
  unfold Oper.wp
  rw [h2 w (Below.refl _ _)]
  exact ⟨fun _ h => h, hN g _ w (hs.put o.dst (dok_spec hd) h1)⟩
variable {K : Type} [DecidableEq K] {enc : K → Value}
/-- The entry of a key: its value v, the map l1 once the entry stands, its place j. -/
structure Ent (l : List (K × Int)) (key : K) (v : Int) (l1 : List (K × Int)) (j : Nat) : Prop where
  h : (mfind l key 0 = none ∧ v = 0 ∧ l1 = l ++ [(key, 0)] ∧ j = l.length) ∨ (mfind l key 0 = some (j, v) ∧ l1 = l)
theorem Ent.ex (l : List (K × Int)) (key : K) : ∃ v l1 j, Ent l key v l1 j ∧ v = (mget l key).getD 0 ∧ j ≤ l.length := by
  unfold mget
  cases h : mfind l key 0 with
  | none => exact ⟨0, _, _, ⟨.inl ⟨h, rfl, rfl, rfl⟩⟩, rfl, Nat.le_refl _⟩
  | some x => exact ⟨x.2, l, x.1, ⟨.inr ⟨h, rfl⟩⟩, rfl, Nat.le_of_lt (List.getElem?_eq_some_iff.1 (mfind_some h)).1⟩
theorem Ent.get {l l1 : List (K × Int)} {key : K} {v : Int} {j : Nat} (h : Ent l key v l1 j) : (mget l key).getD 0 = v ∧ (mget l1 key).getD 0 = v ∧ l1[j]? = some (key, v) ∧ mput l key = fun u => l1.set j (key, u) := by
  rcases h.h with ⟨h1, rfl, rfl, rfl⟩ | ⟨h1, rfl⟩
  · have h0 : mget l key = none := by simp [mget, h1]
    refine ⟨by simp [h0], by rw [mget_snoc, h0]; simp, by simp, ?_⟩
    funext u
    rw [mput_new h0]
    simp
  have h0 : mget l1 key = some v := by simp [mget, h1]
  refine ⟨by simp [h0], by simp [h0], mfind_some h1, ?_⟩
  funext u
  unfold mput
  rw [h1]
def upS (r : Nat) (l : List (Value × Value)) (s : S) : S := ⟨s.n, s.T.map (fun x => (x.1, upM r l x.2)), s.H, s.K⟩
/-- The map of l, or that in which the entry stands. -/
def TM (enc : K → Value) (r : Nat) (l l1 : List (K × Int)) : (Nat → Nat × Nat) → World → Prop := fun g w => ∃ l', (l' = l ∨ l' = l1) ∧ w.heap[(g r).1]? = some (.map (ments (mrows enc l')) (mrows enc l').length)
theorem ments_find (l : List (Value × Value)) (i : Nat) (h : i < l.length) : (ments l).findIdx? (fun e => ((e.born : Nat) : Int) == (i : Int)) = some i := by
  rw [Array.findIdx?_eq_some_iff_getElem]
  have hs : i < (ments l).size := by rw [ments_size]; exact h
  have hb : ∀ k (hk : k < (ments l).size), ((ments l)[k]'hk).born = k := fun k hk => by
    have h1 := ments_get l k
    rw [Array.getElem?_eq_getElem hk] at h1
    have h2 : k < l.length := by rwa [ments_size] at hk
    rw [List.getElem?_eq_getElem h2, Option.map_some, Option.some.injEq] at h1
    rw [h1]
  refine ⟨hs, by rw [hb]; simp, fun k hk => ?_⟩
  rw [hb]
  simp; omega
theorem AT.incr {t k e : TypeId} {bt r N i2 i3 i4 i5 i6 j d3 d5 : Nat} {L1 : List (K × Int)} {l1 : List (K × Int)} {key : K} {v u : Int} {x y : Operand} {o2 o3 o4 o5 o6 : Oper}
    (hE : Ent L1 key v l1 j) (hk : KeyOk c.P k enc) (hu : c.P.underlying t = some (.map k e)) (hi : Inf c.P e 1 bt (.int .i64 0))
    (h2 : L[i2]? = some o2) (h3 : L[i3]? = some o3) (h4 : L[i4]? = some o4) (h5 : L[i5]? = some o5) (h6 : L[i6]? = some o6)
    (q2 : o2.op = .lookup t x y false) (q4 : o4.op = .mapEntry t x y) (q6 : o6.op = .entryStore t x (.tmp d5) (.tmp d3))
    (g2 : o2.guard = none) (g3 : o3.guard = none) (g4 : o4.guard = none) (g5 : o5.guard = none) (g6 : o6.guard = none) (e6 : o6.dst = none) (n6 : need i6 = false)
    (hp : noP Q) (hd2 : dok s o2 = true) (hx : s.ev x = some (.mp r N (mrows enc L1))) (hy : ∀ g a w, Sim c g s a w → a.eval y = enc key)
    (hd3 : dok (s.put o2.dst (.i v)) o3 = true) (r3 : RP c o3 (s.put o2.dst (.i v)) (.i u))
    (hd4 : dok ((s.put o2.dst (.i v)).put o3.dst (.i u)) o4 = true) (hx4 : ((s.put o2.dst (.i v)).put o3.dst (.i u)).ev x = some (.mp r N (mrows enc L1))) (hy4 : ∀ g a w, Sim c g ((s.put o2.dst (.i v)).put o3.dst (.i u)) a w → a.eval y = enc key)
    (hN : N = c.w0.heap.size) (hH : s.H.all (fun x => !V.mpsL x.2.cells) = true) (hK : V.mpsL s.K = false)
    (hd5 : dok (upS r (mrows enc l1) (((s.put o2.dst (.i v)).put o3.dst (.i u)).put o4.dst (.tup [.i v, .i j]))) o5 = true) (r5 : RP c o5 (upS r (mrows enc l1) (((s.put o2.dst (.i v)).put o3.dst (.i u)).put o4.dst (.tup [.i v, .i j]))) (.i j))
    (hx6 : ((upS r (mrows enc l1) (((s.put o2.dst (.i v)).put o3.dst (.i u)).put o4.dst (.tup [.i v, .i j]))).put o5.dst (.i j)).ev x = some (.mp r N (mrows enc l1)))
    (hs6 : ((upS r (mrows enc l1) (((s.put o2.dst (.i v)).put o3.dst (.i u)).put o4.dst (.tup [.i v, .i j]))).put o5.dst (.i j)).ev (.tmp d5) = some (.i j))
    (hv6 : ((upS r (mrows enc l1) (((s.put o2.dst (.i v)).put o3.dst (.i u)).put o4.dst (.tup [.i v, .i j]))).put o5.dst (.i j)).ev (.tmp d3) = some (.i u))
    (hQ : Q .normal (upS r (mrows enc (mput L1 key u)) ((upS r (mrows enc l1) (((s.put o2.dst (.i v)).put o3.dst (.i u)).put o4.dst (.tup [.i v, .i j]))).put o5.dst (.i j)))) :
    AT (TM enc r L1 l1) c L.toArray Q need [(i2, 1), (i3, 2), (i4, 0), (i5, 2), (i6, 0)] s := by
  subst hN
  obtain ⟨E1, E2, E3, E4⟩ := hE.get
  intro g a w hs
  have hmap : ∀ {s' : S} {l' : List (K × Int)} {a w}, Sim c g s' a w → s'.ev x = some (.mp r c.w0.heap.size (mrows enc l')) → a.eval x = .map (some (g r).1) ∧ c.w0.heap.size ≤ (g r).1 ∧ w.heap[(g r).1]? = some (.map (ments (mrows enc l')) (mrows enc l').length) := by
    intro s' l' a w hs hx
    have h := hs.ev hx
    generalize a.eval x = u at h
    cases h with
    | mp _ _ _ hN hm => exact ⟨rfl, hN, hm⟩
  obtain ⟨x1, x2, x3⟩ := hmap hs hx
  refine ⟨o2, .int .i64 v, by simpa using h2, .inl ⟨by simp [Region.wanted, g2], fun w' hT => ?_⟩, ⟨L1, .inl rfl, x3⟩, QQ_noP hp _ _, ?_⟩
  · obtain ⟨l', hl', hb⟩ := hT
    have := run_lookup (ok := false) (key := key) hk hu hi hb
    simp only [execOp, q2, x1, hy g a w hs, Sem.run_bind, this, Result.andThen_ok]
    rcases hl' with rfl | rfl
    · rw [E1]; rfl
    rw [E2]; rfl
  have hs2 := hs.put o2.dst (dok_spec hd2) (v := .i v) (x := .int .i64 v) (.d _ _ (.p _))
  obtain ⟨y3, z1, z2⟩ := r3 g _ w hs2
  obtain rfl : y3 = .int .i64 u := by cases z1 with | d _ _ h => cases h; rfl
  refine ⟨o3, .int .i64 u, by simpa using h3, .inl ⟨by simp [Region.wanted, g3], fun w' _ => z2 w'⟩, QQ_noP hp _ _, ?_⟩
  have hs3 := hs2.put o3.dst (dok_spec hd3) z1
  obtain ⟨u1, u2, u3⟩ := hmap hs3 hx4
  generalize hA : (Act.put (Act.put a o2.dst (.int .i64 v)) o3.dst (.int .i64 u)) = A at *
  have hrun : (Instr.mapEntry t (.map (some (g r).1)) (enc key)).run c.P w = .ok (.tuple #[.int .i64 v, goInt j]) { w with heap := w.heap.setIfInBounds (g r).1 (.map (ments (mrows enc l1)) (mrows enc l1).length) } := by
    simp only [Instr.mapEntry, Sem.run_bind, run_underlying hu, Result.andThen_ok, run_getMap u3, hk.check, hk.find]
    rcases hE.h with ⟨h1, rfl, rfl, rfl⟩ | ⟨h1, rfl⟩
    · simp only [h1, Option.map_none, run_zeroValue hi, Sem.run_bind, Result.andThen_ok, run_setMap _ u3, ments_push]
      simp [mrows]
    have hget : (mrows enc l1)[j]? = some (enc key, .int .i64 v) := by simp [mrows, mfind_some h1]
    have hk0 : (((ments (mrows enc l1))[j]?).map (·.key)).getD (enc key) = enc key := by rw [ments_get, hget]; rfl
    have hself : (ments (mrows enc l1)).modify j (fun e => { e with key := enc key }) = ments (mrows enc l1) := by
      apply Array.ext_getElem?
      intro i
      rw [Array.getElem?_modify]
      split
      · rename_i e
        subst e
        rw [ments_get, hget]; rfl
      rfl
    simp only [h1, Option.map_some, hk0, Instr.keyThatStays, hk.same, if_true, Sem.run_bind, Sem.run_pure, Result.andThen_ok, run_setMap _ u3, hself]
    rw [ments_get, hget]
    rfl
  refine wpOp_of (by simpa using h4) g4 ?_
  unfold Oper.wp
  have hexec : (execOp A.eval o4).run c.P w = .ok (.value (.tuple #[.int .i64 v, goInt j])) { w with heap := w.heap.setIfInBounds (g r).1 (.map (ments (mrows enc l1)) (mrows enc l1).length) } := by
    simp only [execOp, q4, u1, hy4 g A w hs3, Sem.run_bind, hrun, Result.andThen_ok]
    rfl
  rw [hexec]
  have htup : VRep w (qt c ((s.put o2.dst (.i v)).put o3.dst (.i u)).H g) g (.tup [.i v, .i j]) (.tuple #[.int .i64 v, goInt j]) := by
    refine .tup [.i v, .i j] [.int .i64 v, .int .i64 j] rfl fun n p z hp hz => ?_
    match n, hp, hz with
    | 0, hp, hz => simp at hp hz; subst hp hz; exact .d _ _ (.p _)
    | 1, hp, hz => simp at hp hz; subst hp hz; exact .d _ _ (.p _)
    | n + 2, hp, hz => simp at hp
  have hs4 := hs3.put o4.dst (dok_spec hd4) htup
  have hlt : (g r).1 < w.heap.size := (Array.getElem?_eq_some_iff.1 u3).1
  have hHall : ∀ k row, fnd s.H k = some row → V.mpsL row.cells = false := fun k row hk => by
    have := List.all_eq_true.1 hH _ (fnd_mem hk)
    simpa using this
  have hputH : ∀ (s : S) d v, (s.put d v).H = s.H := fun s d v => by cases d <;> rfl
  have hputK : ∀ (s : S) d v, (s.put d v).K = s.K := fun s d v => by cases d <;> rfl
  have hs4' := hs4.upMap (r := r) (l' := mrows enc l1) u3 u2 (fun k row hk => hHall k row (by simpa only [hputH] using hk)) (by simpa only [hputK] using hK)
  refine ⟨fun _ _ => ⟨l1, .inr rfl, by simp [hlt]⟩, ?_⟩
  obtain ⟨y5, k1, k2⟩ := r5 g _ _ hs4'
  obtain rfl : y5 = .int .i64 j := by cases k1 with | d _ _ h => cases h; rfl
  refine ⟨o5, .int .i64 j, by simpa using h5, .inl ⟨by simp [Region.wanted, g5], fun w' _ => k2 w'⟩, QQ_noP hp _ _, ?_⟩
  have hs5 := hs4'.put o5.dst (dok_spec hd5) k1
  obtain ⟨m1, m2, m3⟩ := hmap hs5 hx6
  have m4 := VRep.p_eq (hs5.ev hs6)
  have m5 := VRep.p_eq (hs5.ev hv6)
  refine wpOp_of (by simpa using h6) g6 ?_
  unfold Oper.wp
  have hjl : j < (mrows enc l1).length := by rw [mrows, List.length_map]; exact (List.getElem?_eq_some_iff.1 E3).1
  have hgetj : (mrows enc l1)[j]? = some (enc key, .int .i64 v) := by simp [mrows, E3]
  have hmod : (ments (mrows enc l1)).modify j (fun e => { e with val := .int .i64 u }) = ments ((mrows enc l1).set j (enc key, .int .i64 u)) := by
    rw [← ments_modify _ _ (enc key) (.int .i64 u) _ _ hgetj]
    apply Array.ext_getElem?
    intro i
    rw [Array.getElem?_modify, Array.getElem?_modify]
    split
    · rename_i e
      subst e
      rw [ments_get, hgetj]; rfl
    rfl
  obtain ⟨A6, hA6⟩ : ∃ A6, A6 = Act.put (Act.put A o4.dst (.tuple #[.int .i64 v, goInt j])) o5.dst (.int .i64 j) := ⟨_, rfl⟩
  rw [← hA6] at m1 m4 m5 hs5 ⊢
  obtain ⟨W, hW⟩ : ∃ W, W = { w with heap := w.heap.setIfInBounds (g r).1 (.map (ments (mrows enc l1)) (mrows enc l1).length) } := ⟨_, rfl⟩
  rw [← hW] at m3 hs5 ⊢
  have hset : mrows enc (mput L1 key u) = (mrows enc l1).set j (enc key, .int .i64 u) := by rw [E4]; simp [mrows, List.map_set]
  have hexec6 : (execOp A6.eval o6).run c.P W = .ok .skip { W with heap := W.heap.setIfInBounds (g r).1 (.map (ments (mrows enc (mput L1 key u))) (mrows enc (mput L1 key u)).length) } := by
    simp only [execOp, q6, m1, m4, m5, Instr.entryStore, Sem.run_bind, run_getMap m3, Result.andThen_ok, asInt, asIntOf, goInt, Sem.run_pure, ments_find _ _ hjl, run_setMap _ m3, hmod, hset]
    simp
  rw [hexec6]
  simp only [Oper.upon, e6, Act.put]
  have hfin := hs5.upMap (r := r) (l' := mrows enc (mput L1 key u)) m3 m2 (fun k row hk => hHall k row (by simpa only [hputH, upS] using hk)) (by simpa only [hputK, upS] using hK)
  exact ⟨fun h => (by rw [n6] at h; cases h), ⟨g, _, hQ, hfin⟩⟩
end
end Go.Proofs.YthiknkcigcglkaaGreatDoor
