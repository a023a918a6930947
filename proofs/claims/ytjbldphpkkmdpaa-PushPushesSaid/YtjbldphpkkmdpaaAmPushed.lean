/- The document's Push. -/
import Derived.Test.YtjbldphpkkmdpaaAmTrimmed
import Derived.Test.YtjbldphpkkmdpaaAmEndsRef
import Derived.Test.YtjbldphpkkmdpaaTrim
import Derived.Test.YtjbldphpkkmdpaaFrom
import Derived.Test.YtjbldphpkkmdpaaAmU
import Derived.Test.YtjbldphpkkmdpaaAmTre
namespace Go.Proofs.Ytjbldphpkkmdpaa
open Go.RowKit
set_option linter.unusedSimpArgs false
set_option linter.unusedVariables false
set_option maxRecDepth 100000

def dAt (D : List Nat) (q : Nat) : Int := ((D.getD q 0 : Nat) : Int)
theorem dAt_of {D : List Nat} {q d : Nat} (h : D[q]? = some d) : dAt D q = (d : Int) := by simp [dAt, List.getD_eq_getElem?_getD, h]
def pushW (D : List Nat) (q : Nat) (a : Ar) : Int := a.w + (dAt D a.t.toNat - dAt D q)
def pushA (D : List Nat) (q : Nat) (a : Ar) : Ar := ⟨a.i, a.o, pushW D q a, a.t⟩
def pushF (D : List Nat) (q : Nat) (s : St) : Int := if s.fin = 1000000001 then 1000000001 else s.fin - dAt D q
def pushS (D : List Nat) (q : Nat) (s : St) : St := ⟨pushF D q s, s.arcs.map (pushA D q)⟩
def pushL (D : List Nat) : Nat → List St → List St
 | _, [] => []
 | k, s :: l => pushS D k s :: pushL D (k + 1) l
theorem pushL_get {D : List Nat} : ∀ (l : List St) (k j : Nat), (pushL D k l)[j]? = (l[j]?).map (pushS D (k + j))
 | [], k, j => by simp [pushL]
 | s :: l, k, 0 => by simp [pushL]
 | s :: l, k, j + 1 => by
  rw [pushL, List.getElem?_cons_succ, List.getElem?_cons_succ, pushL_get l (k + 1) j, show k + 1 + j = k + (j + 1) by omega]
def pushOk (D : List Nat) (l : List St) : Prop := ∀ q s a, l[q]? = some s → a ∈ s.arcs → pushW D q a ≤ 1000000000
open Classical in
noncomputable def pushE (m : Mach) : Int := if machE m ≠ 0 then machE m else if disE (enD (trimM m)) (trimM m) ≠ 0 then disE (enD (trimM m)) (trimM m) else if pushOk (disL (enD (trimM m)) (trimM m)) (trimM m).states then 0 else 4
noncomputable def pushM (m : Mach) : Mach := if pushE m = 0 then ⟨(trimM m).start, pushL (disL (enD (trimM m)) (trimM m)) 0 (trimM m).states⟩ else ⟨0, []⟩
noncomputable def pushV (m : Mach) : Int := if pushE m = 0 then (if (trimM m).start < 0 then 0 else dAt (disL (enD (trimM m)) (trimM m)) (trimM m).start.toNat) else 0
theorem pushE_mach {m : Mach} (h : machE m ≠ 0) : pushE m = machE m := by unfold pushE; rw [if_pos h]
theorem pushE_dis {m : Mach} (h : machE m = 0) (h1 : disE (enD (trimM m)) (trimM m) ≠ 0) : pushE m = disE (enD (trimM m)) (trimM m) := by unfold pushE; rw [if_neg (by simp [h]), if_pos h1]
theorem pushE_over {m : Mach} {T : Mach} {D : List Nat} (h : machE m = 0) (h1 : disE (enD (trimM m)) (trimM m) = 0) (hT : trimM m = T) (hD : disL (enD T) T = D) {q : Nat} {s : St} {a : Ar} (hs : T.states[q]? = some s) (ha : a ∈ s.arcs) (hw : 1000000000 < pushW D q a) : pushE m = 4 := by
 unfold pushE
 rw [if_neg (by simp [h]), if_neg (by simp [h1]), hT, hD, if_neg (fun hh => by have := hh q s a hs ha; omega)]
theorem pushE_ok {m : Mach} {T : Mach} {D : List Nat} (h : machE m = 0) (h1 : disE (enD (trimM m)) (trimM m) = 0) (hT : trimM m = T) (hD : disL (enD T) T = D) (ho : pushOk D T.states) : pushE m = 0 ∧ pushM m = ⟨T.start, pushL D 0 T.states⟩ ∧ pushV m = if T.start < 0 then 0 else dAt D T.start.toNat := by
 have he : pushE m = 0 := by
  unfold pushE
  rw [if_neg (by simp [h]), if_neg (by simp [h1]), hT, hD, if_pos ho]
 refine ⟨he, ?_, ?_⟩
 ·unfold pushM; rw [if_pos he, hT, hD]
 ·unfold pushV; rw [if_pos he, hT, hD]
theorem disE_mach {D : List Nat} {m : Mach} (h : disE D m = 0) : machE m = 0 := by
 unfold disE at h
 by_cases h0 : machE m = 0
 ·exact h0
 ·rw [if_pos h0] at h; exact absurd h h0
theorem disL_facts {m : Mach} (h : disE (enD m) m = 0) : (disL (enD m) m).length = m.states.length ∧ ∀ x ∈ disL (enD m) m, x ≤ 1000000001 := by
 have hall : (enD m).all okD = true := by
  have h0 := disE_mach h
  unfold disE at h
  rw [if_neg (by simp [h0])] at h
  by_cases hh : (enD m).all okD = true
  ·exact hh
  ·rw [if_neg hh] at h; cases h
 have hL : disL (enD m) m = (enD m).map tell := by unfold disL; rw [if_pos h]
 rw [hL]
 refine ⟨by simp [enD, dstL], fun x hx => ?_⟩
 simp only [List.mem_map] at hx
 obtain ⟨y, hy, rfl⟩ := hx
 have := List.all_eq_true.1 hall y hy
 simp only [okD, decide_eq_true_eq] at this
 unfold tell
 split <;> omega

theorem rep_tup3 {u u' v y : V} (h : ∀ w q g x, VRep w q g u x → VRep w q g u' x) : ∀ w q g x, VRep w q g (.tup [u, v, y]) x → VRep w q g (.tup [u', v, y]) x := by
 intro w q g x hx
 cases hx with
 | tup _ cs hl hh =>
  refine .tup _ cs hl fun j a z hy hz => ?_
  match j, hy with
  | 0, hy => simp at hy; subst hy; exact h _ _ _ _ (hh 0 u z rfl hz)
  | 1, hy => exact hh 1 a z hy hz
  | 2, hy => exact hh 2 a z hy hz
  | n + 3, hy => simp at hy
/-- Either an error with nothing, or the machine and a number. -/
def resQ (e : Int) (M : Mach) (x : Int) (v : V) : Prop := e ≠ 0 ∧ v = .tup [.agg [.i 0, .nil], .i 0, .i e] ∨ e = 0 ∧ v = .tup [mV M, .i x, .i 0]
theorem resQ_wk {e x : Int} {M : Mach} (hM : e ≠ 0 → M = ⟨0, []⟩ ∧ x = 0) (v : V) (h : resQ e M x v) (_ : v.pure) : ∃ v', v' = .tup [mV M, .i x, .i e] ∧ v'.pure ∧ ∀ w q g x, VRep w q g v x → VRep w q g v' x := by
 refine ⟨_, rfl, by simp [V.pure, V.has, V.hasL], ?_⟩
 rcases h with ⟨h0, rfl⟩ | ⟨h0, rfl⟩
 ·obtain ⟨h1, h2⟩ := hM h0
  rw [h1, h2]
  exact rep_tup3 (rep_zeroM 0)
 ·rw [h0]
  exact fun _ _ _ _ h => h
theorem push_none {m : Mach} (h : pushE m ≠ 0) : pushM m = ⟨0, []⟩ ∧ pushV m = 0 := ⟨by unfold pushM; rw [if_neg h], by unfold pushV; rw [if_neg h]⟩
theorem pushW_get {D : List Nat} {q p d e : Nat} {i o w : Int} (h : D[p]? = some d) (h2 : D[q]? = some e) : pushW D q ⟨i, o, w, p⟩ = w + ((d : Int) - (e : Int)) := by
 unfold pushW
 rw [dAt_of h2]
 simp only [Int.toNat_natCast]
 rw [dAt_of h]
theorem pushA_get {D : List Nat} {q p d e : Nat} {i o w : Int} (h : D[p]? = some d) (h2 : D[q]? = some e) : pushA D q ⟨i, o, w, p⟩ = ⟨i, o, w + ((d : Int) - (e : Int)), p⟩ := by
 unfold pushA; rw [pushW_get h h2]
theorem pushF_inf {D : List Nat} {q : Nat} {s : St} (h : s.fin = 1000000001) : pushF D q s = 1000000001 := by unfold pushF; rw [if_pos h]
theorem pushF_get {D : List Nat} {q d : Nat} {s : St} (h : s.fin ≠ 1000000001) (h2 : D[q]? = some d) : pushF D q s = s.fin - (d : Int) := by unfold pushF; rw [if_neg h, dAt_of h2]

theorem am_Trimmed_err {m : Mach} (h : machE m ≠ 0) : Fn Try.prog 57 [mV m] (fun v => v = .tup [.agg [.i 0, .nil], .i (machE m)]) := (am_Trimmed0 m).mono fun v hv => by
 rcases hv with ⟨_, hv⟩ | ⟨h1, _⟩
 ·exact hv
 ·exact absurd h1 h
theorem am_Trimmed_ok {m : Mach} (h : machE m = 0) : Fn Try.prog 57 [mV m] (fun v => v = .tup [mV (trimM m), .i 0]) := (am_Trimmed0 m).mono fun v hv => by
 rcases hv with ⟨h1, _⟩ | ⟨h1, hv⟩
 ·exact absurd h h1
 ·rw [hv, h]
theorem pushL_len {D : List Nat} : ∀ (l : List St) (k : Nat), (pushL D k l).length = l.length
 | [], k => rfl
 | s :: l, k => by rw [pushL, List.length_cons, List.length_cons, pushL_len l (k + 1)]

set_option maxHeartbeats 4000000 in
theorem am_Pushed0 (m : Mach) : Fn Try.prog 20 [mV m] (fun v => resQ (pushE m) (pushM m) (pushV m) v) := by
 by_cases h0 : machE m = 0
 ·have hcon := am_Trimmed_ok h0
  by_cases h1 : disE (enD (trimM m)) (trimM m) = 0
  ·obtain ⟨hDl, hDb⟩ := disL_facts h1
   have hends := resI_eq (am_FarEnds0 (trimM m)) h1
   have hz := machE_zero (disE_mach h1)
   have hover := fun (D : List Nat) (T : Mach) (hT : trimM m = T) (hD : disL (enD T) T = D) (q : Nat) (s : St) (a : Ar) => pushE_over (m := m) (T := T) (D := D) h0 h1 hT hD (q := q) (s := s) (a := a)
   have hgood := fun (D : List Nat) (T : Mach) (hT : trimM m = T) (hD : disL (enD T) T = D) => pushE_ok (m := m) (T := T) (D := D) h0 h1 hT hD
   obtain ⟨T, hT⟩ : ∃ T, trimM m = T := ⟨_, rfl⟩
   obtain ⟨D, hD⟩ : ∃ D, disL (enD T) T = D := ⟨_, rfl⟩
   rw [hT] at hcon hDl hDb hends hz
   rw [hD] at hDl hDb hends
   have hover := hover D T hT hD
   have hgood := hgood D T hT hD
   obtain ⟨e, he⟩ : ∃ e, pushE m = e := ⟨_, rfl⟩
   obtain ⟨M, hM⟩ : ∃ M, pushM m = M := ⟨_, rfl⟩
   obtain ⟨X, hX⟩ : ∃ X, pushV m = X := ⟨_, rfl⟩
   rw [he, hM, hX] at hgood ⊢
   rw [he] at hover
   obtain ⟨st, sts⟩ := m
   obtain ⟨a, Ts⟩ := T
   clear hT hD h1 he hM hX
   obtain ⟨h60, h400, hst, hz⟩ := hz
   simp only at h60 h400 hst hz hDl hcon hends hover hgood
   have hal4 : ∀ x ∈ Ts, x.arcs.length ≤ 400 := fun x hx => Nat.le_trans (arcN_mem Ts x hx) h400
   obtain ⟨n, hn⟩ : ∃ n, Ts.length = n := ⟨_, rfl⟩
   rw [hn] at h60 hst hz hDl
   obtain ⟨L, hL⟩ : ∃ L, pushL D 0 Ts = L := ⟨_, rfl⟩
   have hLl : L.length = n := by rw [← hL, pushL_len, hn]
   rw [hL] at hgood
   refine Fn.intro (n := 134) ⟨Try.func20, rfl, rfl, rfl, rfl⟩ (by simp [V.pure, V.has, V.hasL]) (by simp) fun w0 out => ?_
   refine AW.seq ?_
   refine AW.region ?_
   refine AL.sm rfl (sm_box 1 rfl rfl rfl rfl rfl) ?_
   refine AL.sm rfl (sm_alloc (l := [.d (.p (.int .i64 0)), .d (.p (.slice none 0 0))]) 2 inf24 rfl rfl rfl rfl) ?_
   refine AL.rp rfl rfl (rp_assign rfl rfl) ?_
   refine AL.rp rfl rfl (rp_assign rfl rfl) ?_
   refine AL.nil ?_
   try simp only [thenS, S.put, S.newObj, setL, V.cs, List.length_cons, List.length_nil, List.take_succ_cons, List.take_zero, List.drop_succ_cons, List.drop_zero, List.drop_nil, List.nil_append, List.cons_append, List.append_nil, Nat.zero_add, Nat.reduceAdd, List.map_cons, List.map_nil, List.set_cons_zero, List.set_cons_succ, enum]
   refine AW.seq ?_
   refine AW.region ?_
   refine AL.rd rfl rfl (rd_loads_ref Try.underlying24 rfl inf24 rfl rfl rfl rfl rfl rfl) ?_
   refine AL.call (post := ?pc2) rfl (sm_call (args := [_]) ?hc2 ⟨Try.func57, rfl, rfl, rfl, rfl⟩ rfl rfl rfl rfl) ?_
   case hc2 => exact hcon
   rintro _ rfl -
   try dsimp only
   refine AL.rp rfl rfl (rp_move rfl rfl) ?_
   refine AL.rp rfl rfl (rp_extract rfl rfl rfl) ?_
   refine AL.rp rfl rfl (rp_extract rfl rfl rfl) ?_
   refine AL.sm rfl (sm_alloc (l := [.d (.p (.int .i64 0)), .d (.p (.slice none 0 0))]) 5 inf24 rfl rfl rfl rfl) ?_
   refine AL.st rfl (st_store_any inf24 rfl rfl rfl rfl rfl rfl rfl rfl (by first | decide | (simp; done) | (simp; omega)) rfl) ?_
   refine AL.rp rfl rfl (rp_assign rfl rfl) ?_
   refine AL.nil ?_
   try simp only [thenS, S.put, S.newObj, setL, V.cs, List.length_cons, List.length_nil, List.take_succ_cons, List.take_zero, List.drop_succ_cons, List.drop_zero, List.drop_nil, List.nil_append, List.cons_append, List.append_nil, Nat.zero_add, Nat.reduceAdd, List.map_cons, List.map_nil, List.set_cons_zero, List.set_cons_succ]
   refine AW.seq ?_
   refine AW.seq ?_
   refine AW.region ?_
   refine AL.rp rfl rfl (rp_move rfl rfl) ?_
   (refine AL.rp rfl rfl (rp_neqF rfl rfl rfl (by first | assumption | omega | (dsimp only; omega))) ?_)
   refine AL.nil ?_
   try simp only [thenS, S.put]
   refine AW.condF rfl ?_
   refine AW.skip ?_
   try simp only [thenS]
   refine AW.seq ?_
   refine AW.region ?_
   refine AL.rd rfl rfl (rd_loads_ref Try.underlying24 rfl inf24 rfl rfl rfl rfl rfl rfl) ?_
   refine AL.call (post := ?pc3) rfl (sm_call (args := [_]) ?hc3 ⟨Try.func58, rfl, rfl, rfl, rfl⟩ rfl rfl rfl rfl) ?_
   case hc3 => exact hends
   rintro _ rfl -
   try dsimp only
   refine AL.rp rfl rfl (rp_move rfl rfl) ?_
   refine AL.rp rfl rfl (rp_extract rfl rfl rfl) ?_
   refine AL.rp rfl rfl (rp_extract rfl rfl rfl) ?_
   refine AL.rp rfl rfl (rp_assign rfl rfl) ?_
   refine AL.rp rfl rfl (rp_assign rfl rfl) ?_
   refine AL.nil ?_
   try simp only [thenS, S.put, S.newObj, setL, V.cs, List.length_cons, List.length_nil, List.take_succ_cons, List.take_zero, List.drop_succ_cons, List.drop_zero, List.drop_nil, List.nil_append, List.cons_append, List.append_nil, Nat.zero_add, Nat.reduceAdd, List.map_cons, List.map_nil, List.set_cons_zero, List.set_cons_succ]
   refine AW.seq ?_
   refine AW.seq ?_
   refine AW.region ?_
   refine AL.rp rfl rfl (rp_move rfl rfl) ?_
   (refine AL.rp rfl rfl (rp_neqF rfl rfl rfl (by first | assumption | omega | (dsimp only; omega))) ?_)
   refine AL.nil ?_
   try simp only [thenS, S.put]
   refine AW.condF rfl ?_
   refine AW.skip ?_
   try simp only [thenS]
   refine AW.seq ?_
   refine AW.region ?_
   refine AL.rp rfl rfl (rp_field_ref Try.underlying24 rfl rfl rfl inf3 (by decide) rfl) ?_
   refine AL.rd rfl rfl (rd_load_ref Try.underlying3 rfl rfl rfl rfl rfl rfl) ?_
   refine AL.rp rfl rfl (rp_build (vs := [(0, _)]) (zs := [.d (.p (.int .i64 0)), .d (.p (.slice none 0 0))]) pl24 inf24 rfl rfl rfl rfl) ?_
   refine AL.sm rfl (sm_alloc (l := [.d (.p (.int .i64 0)), .d (.p (.slice none 0 0))]) 8 inf24 rfl rfl rfl rfl) ?_
   refine AL.st rfl (st_store_any inf24 rfl rfl rfl rfl rfl rfl rfl rfl (by first | decide | (simp; done) | (simp; omega)) rfl) ?_
   refine AL.nil ?_
   try simp only [thenS, S.put, S.newObj, setL, V.cs, List.length_cons, List.length_nil, List.take_succ_cons, List.take_zero, List.drop_succ_cons, List.drop_zero, List.drop_nil, List.nil_append, List.cons_append, List.append_nil, Nat.zero_add, Nat.reduceAdd, List.map_cons, List.map_nil, List.set_cons_zero, List.set_cons_succ]
   refine AW.seq ?_
   refine AW.seq ?_
   refine AW.adoptH 8 1 101 2 52 rfl rfl rfl (by simp [S.clean, V.has, V.hasL, V.cs, setL]) ?_
   refine AW.region ?_
   refine AL.rp rfl rfl (rp_assign rfl rfl) ?_
   refine AL.nil ?_
   try simp only [thenS, S.put]
   refine AW.block ?_
   refine AW.loop (fun s' => ∃ k : Nat, k ≤ n ∧ (∀ q x y, q < k → Ts[q]? = some x → y ∈ x.arcs → pushW D q y ≤ 1000000000) ∧ s' = ⟨134, [(2, .ref 2 0), (5, .ref 5 0), (7, .d (intsN D)), (8, .ref 8 0), (9, .i k)], [(2, ⟨24, [.i 0, .nil], false, 0⟩), (5, ⟨24, [.i a, .d (stsD Ts)], false, 0⟩), (8, ⟨24, [.i a, .own 101 2 k (decide (k = 0))], false, 0⟩), (101, ⟨52, (L.take k).flatMap stV2, decide (k = 0), 2⟩)], []⟩) (fun s' => n - s'.nat 9) ⟨_, ?_, 0, by omega, (fun q x y h => absurd h (by omega)), rfl⟩ ?_
   ·exact (Less.of rfl (by repeat (first | exact trivial | refine ⟨⟨_, rfl, Wk.refl _⟩, ?_⟩ | refine ⟨⟨_, rfl, Wk.nil _ _⟩, ?_⟩ | refine ⟨⟨_, rfl, Wk.junk _⟩, ?_⟩)) (by repeat (first | exact trivial | refine ⟨rfl, ?_⟩)) rfl)
   rintro s' ⟨k, hk, hok, rfl⟩
   by_cases hlt : k < n
   ·obtain ⟨x, hx⟩ := get_lt hn hlt
    obtain ⟨d, hd⟩ := get_lt hDl hlt
    have hdb := hDb d (List.mem_of_getElem? hd)
    have hxm := List.mem_of_getElem? hx
    have hxf := (hz x hxm).1
    simp only [finOk, decide_eq_true_eq] at hxf
    obtain ⟨la, hla⟩ : ∃ n, x.arcs.length = n := ⟨_, rfl⟩
    have hla4 := hal4 x hxm
    rw [hla] at hla4
    have hLk : L[k]? = some (pushS D k x) := by rw [← hL, pushL_get, hx, Nat.zero_add]; rfl
    have hsn := congrArg (List.flatMap stV2) (take_snoc hLk)
    rw [List.flatMap_append, List.flatMap_cons, List.flatMap_nil, List.append_nil] at hsn
    have hfl : ((L.take k).flatMap stV2).length = k * 2 := by rw [flat_len (sz := 2) (fun _ => rfl), List.length_take]; omega
    refine AW.seq ?_
    refine AW.seq ?_
    refine AW.region ?_
    refine AL.rp rfl rfl (rp_move rfl rfl) ?_
    refine AL.rp rfl rfl (rp_field_ref Try.underlying24 rfl rfl rfl inf22 (by decide) rfl) ?_
    refine AL.rd rfl rfl (rd_load_ref Try.underlying22 rfl rfl rfl rfl rfl rfl) ?_
    refine AL.rp rfl rfl (rp_len_map Try.underlying22 rfl rfl (by assumption)) ?_
    (refine AL.rp rfl rfl (rp_lssT rfl rfl rfl (by first | assumption | omega | (dsimp only; omega))) ?_)
    refine AL.nil ?_
    try simp only [thenS, S.put]
    refine AW.condT rfl ?_
    refine AW.skip ?_
    try simp only [thenS]
    refine AW.seq ?_
    refine AW.block ?_
    refine AW.seq ?_
    refine AW.region ?_
    refine AL.rp rfl rfl (rp_build (vs := [(0, _)]) (zs := [.d (.p (.int .i64 0)), .d (.p (.slice none 0 0))]) pl52 inf52 rfl rfl rfl rfl) ?_
    refine AL.sm rfl (sm_alloc (l := [.d (.p (.int .i64 0)), .d (.p (.slice none 0 0))]) 10 inf52 rfl (by simp [S.clean, S.put, S.newObj, S.forget, V.has, V.hasL, junkIf, setL, V.cs, hasL_i, hasL_b, hasL_s, hasL_n, hasL_rep, hasL_flat, hasL_append, -List.map_set]) rfl rfl) ?_
    refine AL.st rfl (st_store_any inf52 rfl rfl rfl rfl rfl rfl rfl rfl (by first | decide | (simp; done) | (simp; omega)) rfl) ?_
    refine AL.nil ?_
    try simp only [thenS, S.put, S.newObj, setL, V.cs, List.length_cons, List.length_nil, List.take_succ_cons, List.take_zero, List.drop_succ_cons, List.drop_zero, List.drop_nil, List.nil_append, List.cons_append, List.append_nil, Nat.zero_add, Nat.reduceAdd, List.map_cons, List.map_nil, List.set_cons_zero, List.set_cons_succ]
    refine AW.seqc (fun s' => s' = ⟨134, [(2, .ref 2 0), (5, .ref 5 0), (7, .d (intsN D)), (8, .ref 8 0), (9, .i k), (10, .ref 10 0)], [(2, ⟨24, [.i 0, .nil], false, 0⟩), (5, ⟨24, [.i a, .d (stsD Ts)], false, 0⟩), (8, ⟨24, [.i a, .own 101 2 k (decide (k = 0))], false, 0⟩), (101, ⟨52, (L.take k).flatMap stV2, decide (k = 0), 2⟩), (10, ⟨52, [.i (pushF D k x), .nil], false, 0⟩)], []⟩) ?_ ?_
    ·skip
     by_cases hin : x.fin = 1000000001
     ·have hpf : pushF D k x = 1000000001 := pushF_inf hin
      refine AW.seq ?_
      refine AW.region ?_
      refine AL.rp rfl rfl (rp_field_ref Try.underlying24 rfl rfl rfl inf22 (by decide) rfl) ?_
      refine AL.rd rfl rfl (rd_load_ref Try.underlying22 rfl rfl rfl rfl rfl rfl) ?_
      refine AL.rp rfl rfl (rp_move rfl rfl) ?_
      refine AL.rp rfl rfl (rp_index_map Try.underlying22 inf52 rfl rfl rfl rfl (by assumption)) ?_
      refine AL.rp rfl rfl (rp_field_ad Try.underlying52 rfl rfl rfl inf3 (by decide) rfl) ?_
      refine AL.rd rfl rfl (rd_load_ad Try.underlying3 rfl rfl rfl rfl) ?_
      (refine AL.rp rfl rfl (rp_neqF rfl rfl rfl (by first | assumption | omega | (dsimp only; omega))) ?_)
      refine AL.nil ?_
      try simp only [thenS, S.put]
      refine AW.condF rfl ?_
      refine AW.skip ?_
      try simp only [thenS]
      refine ⟨_, ?_, rfl⟩
      rw [hpf]; exact (Less.of rfl (by repeat (first | exact trivial | refine ⟨⟨_, rfl, Wk.refl _⟩, ?_⟩ | refine ⟨⟨_, rfl, Wk.nil _ _⟩, ?_⟩ | refine ⟨⟨_, rfl, Wk.junk _⟩, ?_⟩)) (by repeat (first | exact trivial | refine ⟨rfl, ?_⟩)) rfl)
     ·have hpf : pushF D k x = x.fin - (d : Int) := pushF_get hin hd
      refine AW.seq ?_
      refine AW.region ?_
      refine AL.rp rfl rfl (rp_field_ref Try.underlying24 rfl rfl rfl inf22 (by decide) rfl) ?_
      refine AL.rd rfl rfl (rd_load_ref Try.underlying22 rfl rfl rfl rfl rfl rfl) ?_
      refine AL.rp rfl rfl (rp_move rfl rfl) ?_
      refine AL.rp rfl rfl (rp_index_map Try.underlying22 inf52 rfl rfl rfl rfl (by assumption)) ?_
      refine AL.rp rfl rfl (rp_field_ad Try.underlying52 rfl rfl rfl inf3 (by decide) rfl) ?_
      refine AL.rd rfl rfl (rd_load_ad Try.underlying3 rfl rfl rfl rfl) ?_
      (refine AL.rp rfl rfl (rp_neqT rfl rfl rfl (by first | assumption | omega | (dsimp only; omega))) ?_)
      refine AL.nil ?_
      try simp only [thenS, S.put]
      refine AW.condT rfl ?_
      refine AW.draw [(0, true), (1, true), (2, true), (3, true), (4, true), (5, true), (6, true), (7, true), (8, true), (9, true), (10, true), (11, true), (12, false)] (fun i => !([12] : List Nat).contains i) 13 (by kernel_rfl) (by kernel_rfl) rfl (by kernel_rfl) ?_
      refine AD1.rp rfl rfl rfl (fun _ _ h => h) (rp_field_ref Try.underlying24 rfl rfl rfl inf22 (by decide) rfl) ?_
      refine AD1.rd rfl rfl rfl (fun _ _ h => h) (rd_load_ref Try.underlying22 rfl rfl rfl rfl rfl rfl) ?_
      refine AD1.rp rfl rfl rfl (fun _ _ h => h) (rp_move rfl rfl) ?_
      refine AD1.rp rfl rfl rfl (fun _ _ h => h) (rp_index_map Try.underlying22 inf52 rfl rfl rfl rfl (by assumption)) ?_
      refine AD1.rp rfl rfl rfl (fun _ _ h => h) (rp_field_ad Try.underlying52 rfl rfl rfl inf3 (by decide) rfl) ?_
      refine AD1.rd rfl rfl rfl (fun _ _ h => h) (rd_load_ad Try.underlying3 rfl rfl rfl rfl) ?_
      refine AD1.rp rfl rfl rfl (fun _ _ h => h) (rp_move rfl rfl) ?_
      refine AD1.rp rfl rfl rfl (fun _ _ h => h) (rp_move rfl rfl) ?_
      refine AD1.rp rfl rfl rfl (fun _ _ h => h) (rp_index_map Try.underlying40 inf3 rfl rfl rfl rfl (by assumption)) ?_
      refine AD1.rd rfl rfl rfl (fun _ _ h => h) (rd_load_ad Try.underlying3 rfl rfl rfl rfl) ?_
      refine AD1.rp rfl rfl rfl (fun _ _ h => h) (rp_sub rfl rfl rfl (by first | omega | (dsimp only; omega))) ?_
      refine AD1.rp rfl rfl rfl (fun _ _ h => h) (rp_field_ref Try.underlying52 rfl rfl rfl inf3 (by decide) rfl) ?_
      refine AD1.go ?_
      refine AD2.go ?_
      (refine AD3.st rfl rfl rfl (st_store inf3 rfl rfl rfl rfl rfl rfl rfl (by first | decide | (simp; done)) rfl) ?_)
      refine AD3.nil ?_
      try simp only [thenS, S.put, S.newObj, setL, V.cs, List.length_cons, List.length_nil, List.take_succ_cons, List.take_zero, List.drop_succ_cons, List.drop_zero, List.drop_nil, List.nil_append, List.cons_append, List.append_nil, Nat.zero_add, Nat.reduceAdd, List.map_cons, List.map_nil, List.set_cons_zero, List.set_cons_succ]
      refine ⟨_, ?_, rfl⟩
      rw [hpf]; exact (Less.of rfl (by repeat (first | exact trivial | refine ⟨⟨_, rfl, Wk.refl _⟩, ?_⟩ | refine ⟨⟨_, rfl, Wk.nil _ _⟩, ?_⟩ | refine ⟨⟨_, rfl, Wk.junk _⟩, ?_⟩)) (by repeat (first | exact trivial | refine ⟨rfl, ?_⟩)) rfl)
    ·rintro s' rfl
     obtain ⟨F, hF⟩ : ∃ F, pushF D k x = F := ⟨_, rfl⟩
     rw [hF]
     obtain ⟨A, hA⟩ : ∃ A, x.arcs.map (pushA D k) = A := ⟨_, rfl⟩
     have hAl : A.length = la := by rw [← hA, List.length_map, hla]
     have hS : pushS D k x = ⟨F, A⟩ := by rw [← hF, ← hA]; rfl
     rw [hS] at hsn
     refine AW.adoptH 10 1 102 4 56 rfl rfl rfl (by simp [S.clean, V.has, V.hasL, V.cs, setL, -List.map_take]) ?_
     refine AW.seq ?_
     refine AW.region ?_
     refine AL.rp rfl rfl (rp_field_ref Try.underlying24 rfl rfl rfl inf22 (by decide) rfl) ?_
     refine AL.rd rfl rfl (rd_load_ref Try.underlying22 rfl rfl rfl rfl rfl rfl) ?_
     refine AL.rp rfl rfl (rp_move rfl rfl) ?_
     refine AL.rp rfl rfl (rp_index_map Try.underlying22 inf52 rfl rfl rfl rfl (by assumption)) ?_
     refine AL.rp rfl rfl (rp_field_ad Try.underlying52 rfl rfl rfl inf50 (by decide) rfl) ?_
     refine AL.rd rfl rfl (rd_load_ad Try.underlying50 rfl rfl rfl rfl) ?_
     refine AL.rp rfl rfl (rp_assign rfl rfl) ?_
     refine AL.nil ?_
     try simp only [thenS, S.put]
     refine AW.seq ?_
     refine AW.seq ?_
     refine AW.region ?_
     refine AL.rp rfl rfl (rp_assign rfl rfl) ?_
     refine AL.nil ?_
     try simp only [thenS, S.put]
     refine AW.block ?_
     refine AW.loop (fun s' => ∃ i : Nat, i ≤ la ∧ (∀ j y, j < i → x.arcs[j]? = some y → pushW D k y ≤ 1000000000) ∧ s' = ⟨134, [(2, .ref 2 0), (5, .ref 5 0), (7, .d (intsN D)), (8, .ref 8 0), (9, .i k), (10, .ref 10 0), (11, .d (arsD x.arcs)), (12, .i i)], [(2, ⟨24, [.i 0, .nil], false, 0⟩), (5, ⟨24, [.i a, .d (stsD Ts)], false, 0⟩), (8, ⟨24, [.i a, .own 101 2 k (decide (k = 0))], false, 0⟩), (101, ⟨52, (L.take k).flatMap stV2, decide (k = 0), 2⟩), (10, ⟨52, [.i F, .own 102 4 i (decide (i = 0))], false, 0⟩), (102, ⟨56, (A.take i).flatMap arV2, decide (i = 0), 4⟩)], []⟩) (fun s' => la - s'.nat 12) ⟨_, ?_, 0, by omega, (fun j y h => absurd h (by omega)), rfl⟩ ?_
     ·exact (Less.of rfl (by repeat (first | exact trivial | refine ⟨⟨_, rfl, Wk.refl _⟩, ?_⟩ | refine ⟨⟨_, rfl, Wk.nil _ _⟩, ?_⟩ | refine ⟨⟨_, rfl, Wk.junk _⟩, ?_⟩)) (by repeat (first | exact trivial | refine ⟨rfl, ?_⟩)) rfl)
     rintro s' ⟨i, hi, hik, rfl⟩
     have hfl2 : ((A.take i).flatMap arV2).length = i * 4 := by rw [flat_len (sz := 4) (fun _ => rfl), List.length_take]; omega
     by_cases hil : i < la
     ·obtain ⟨y, hy⟩ := get_lt hla hil
      have hym := List.mem_of_getElem? hy
      have hyt := (hz x hxm).2 y hym
      have hyA : A[i]? = some (pushA D k y) := by rw [← hA, List.getElem?_map, hy]; rfl
      obtain ⟨yi, yo, yw, yt⟩ := y
      simp only [arOk, decide_eq_true_eq] at hyt
      obtain ⟨p, rfl⟩ : ∃ p : Nat, yt = p := ⟨yt.toNat, by omega⟩
      obtain ⟨dp, hdp⟩ := get_lt hDl (show p < n by omega)
      have hdpb := hDb dp (List.mem_of_getElem? hdp)
      have hpw : pushW D k ⟨yi, yo, yw, p⟩ = yw + (dp : Int) - (d : Int) := by rw [pushW_get hdp hd]; omega
      have hpa : pushA D k ⟨yi, yo, yw, p⟩ = ⟨yi, yo, yw + (dp : Int) - (d : Int), p⟩ := by unfold pushA; rw [hpw]
      have hsn2 := congrArg (List.flatMap arV2) (take_snoc hyA)
      rw [hpa, List.flatMap_append, List.flatMap_cons, List.flatMap_nil, List.append_nil] at hsn2
      by_cases hov : 1000000000 < yw + (dp : Int) - (d : Int)
      ·have he4 : e = 4 := hover k x _ hx hym (by rw [hpw]; exact hov)
       subst he4
       refine AW.seq ?_
       refine AW.seq ?_
       refine AW.region ?_
       refine AL.rp rfl rfl (rp_move rfl rfl) ?_
       refine AL.rp rfl rfl (rp_move rfl rfl) ?_
       refine AL.rp rfl rfl (rp_len_map Try.underlying50 rfl rfl (by assumption)) ?_
       (refine AL.rp rfl rfl (rp_lssT rfl rfl rfl (by first | assumption | omega | (dsimp only; omega))) ?_)
       refine AL.nil ?_
       try simp only [thenS, S.put]
       refine AW.condT rfl ?_
       refine AW.skip ?_
       try simp only [thenS]
       refine AW.seq ?_
       refine AW.block ?_
       refine AW.seq ?_
       refine AW.draw [(0, true), (1, true), (2, true), (3, true), (4, true), (5, true), (6, true), (7, true), (8, true), (9, true), (10, true), (11, true), (12, true), (13, true), (14, true), (15, true), (16, true), (17, true), (18, true), (19, true)] (fun i => !([] : List Nat).contains i) 20 (by kernel_rfl) (by kernel_rfl) rfl (by kernel_rfl) ?_
       refine AD1.rp rfl rfl rfl (fun _ _ h => h) (rp_move rfl rfl) ?_
       refine AD1.rp rfl rfl rfl (fun _ _ h => h) (rp_move rfl rfl) ?_
       refine AD1.rp rfl rfl rfl (fun _ _ h => h) (rp_index_map Try.underlying50 inf56 rfl rfl rfl rfl (by assumption)) ?_
       refine AD1.rp rfl rfl rfl (fun _ _ h => h) (rp_field_ad Try.underlying56 rfl rfl rfl inf3 (by decide) rfl) ?_
       refine AD1.rd rfl rfl rfl (fun _ _ h => h) (rd_load_ad Try.underlying3 rfl rfl rfl rfl) ?_
       refine AD1.rp rfl rfl rfl (fun _ _ h => h) (rp_move rfl rfl) ?_
       refine AD1.rp rfl rfl rfl (fun _ _ h => h) (rp_move rfl rfl) ?_
       refine AD1.rp rfl rfl rfl (fun _ _ h => h) (rp_move rfl rfl) ?_
       refine AD1.rp rfl rfl rfl (fun _ _ h => h) (rp_index_map Try.underlying50 inf56 rfl rfl rfl rfl (by assumption)) ?_
       refine AD1.rp rfl rfl rfl (fun _ _ h => h) (rp_field_ad Try.underlying56 rfl rfl rfl inf3 (by decide) rfl) ?_
       refine AD1.rd rfl rfl rfl (fun _ _ h => h) (rd_load_ad Try.underlying3 rfl rfl rfl rfl) ?_
       refine AD1.rp rfl rfl rfl (fun _ _ h => h) (rp_index_map Try.underlying40 inf3 rfl rfl rfl rfl (by assumption)) ?_
       refine AD1.rd rfl rfl rfl (fun _ _ h => h) (rd_load_ad Try.underlying3 rfl rfl rfl rfl) ?_
       refine AD1.rp rfl rfl rfl (fun _ _ h => h) (rp_add rfl rfl rfl (by first | omega | (dsimp only; omega))) ?_
       refine AD1.rp rfl rfl rfl (fun _ _ h => h) (rp_move rfl rfl) ?_
       refine AD1.rp rfl rfl rfl (fun _ _ h => h) (rp_move rfl rfl) ?_
       refine AD1.rp rfl rfl rfl (fun _ _ h => h) (rp_index_map Try.underlying40 inf3 rfl rfl rfl rfl (by assumption)) ?_
       refine AD1.rd rfl rfl rfl (fun _ _ h => h) (rd_load_ad Try.underlying3 rfl rfl rfl rfl) ?_
       refine AD1.rp rfl rfl rfl (fun _ _ h => h) (rp_sub rfl rfl rfl (by first | omega | (dsimp only; omega))) ?_
       refine AD1.rp rfl rfl rfl (fun _ _ h => h) (rp_assign rfl rfl) ?_
       refine AD1.nil ?_
       try simp only [thenS, S.put]
       refine AW.seq ?_
       refine AW.seq ?_
       refine AW.region ?_
       refine AL.rp rfl rfl (rp_move rfl rfl) ?_
       (refine AL.rp rfl rfl (rp_gtrT rfl rfl rfl (by first | assumption | omega | (dsimp only; omega))) ?_)
       refine AL.nil ?_
       try simp only [thenS, S.put]
       refine AW.condT rfl ?_
       refine AW.seq ?_
       refine AW.region ?_
       refine AL.rp rfl rfl (rp_build (vs := []) (zs := [.d (.p (.int .i64 0)), .d (.p (.slice none 0 0))]) pl24 inf24 rfl rfl rfl rfl) ?_
       refine AL.st rfl (st_store_any inf24 rfl rfl rfl rfl rfl rfl rfl rfl (by first | decide | (simp; done) | (simp; omega)) rfl) ?_
       refine AL.rp rfl rfl (rp_assign rfl rfl) ?_
       refine AL.rp rfl rfl (rp_assign rfl rfl) ?_
       refine AL.nil ?_
       try simp only [thenS, S.put, S.newObj, setL, V.cs, List.length_cons, List.length_nil, List.take_succ_cons, List.take_zero, List.drop_succ_cons, List.drop_zero, List.drop_nil, List.nil_append, List.cons_append, List.append_nil, Nat.zero_add, Nat.reduceAdd, List.map_cons, List.map_nil, List.set_cons_zero, List.set_cons_succ]
       refine AW.ret ?_
       exact ⟨[_, _, _], ⟨⟨2, 0, _, _, rfl, rfl, rfl, Try.underlying24, .inr ⟨rfl, _, _, _, _, inf24, rfl, rfl, rfl⟩⟩, rfl, rfl, trivial⟩, .inl ⟨by decide, rfl⟩, by simp [tupOf, V.pure, V.has, V.hasL]⟩
      ·skip
       refine AW.seq ?_
       refine AW.seq ?_
       refine AW.region ?_
       refine AL.rp rfl rfl (rp_move rfl rfl) ?_
       refine AL.rp rfl rfl (rp_move rfl rfl) ?_
       refine AL.rp rfl rfl (rp_len_map Try.underlying50 rfl rfl (by assumption)) ?_
       (refine AL.rp rfl rfl (rp_lssT rfl rfl rfl (by first | assumption | omega | (dsimp only; omega))) ?_)
       refine AL.nil ?_
       try simp only [thenS, S.put]
       refine AW.condT rfl ?_
       refine AW.skip ?_
       try simp only [thenS]
       refine AW.seq ?_
       refine AW.block ?_
       refine AW.seq ?_
       refine AW.draw [(0, true), (1, true), (2, true), (3, true), (4, true), (5, true), (6, true), (7, true), (8, true), (9, true), (10, true), (11, true), (12, true), (13, true), (14, true), (15, true), (16, true), (17, true), (18, true), (19, true)] (fun i => !([] : List Nat).contains i) 20 (by kernel_rfl) (by kernel_rfl) rfl (by kernel_rfl) ?_
       refine AD1.rp rfl rfl rfl (fun _ _ h => h) (rp_move rfl rfl) ?_
       refine AD1.rp rfl rfl rfl (fun _ _ h => h) (rp_move rfl rfl) ?_
       refine AD1.rp rfl rfl rfl (fun _ _ h => h) (rp_index_map Try.underlying50 inf56 rfl rfl rfl rfl (by assumption)) ?_
       refine AD1.rp rfl rfl rfl (fun _ _ h => h) (rp_field_ad Try.underlying56 rfl rfl rfl inf3 (by decide) rfl) ?_
       refine AD1.rd rfl rfl rfl (fun _ _ h => h) (rd_load_ad Try.underlying3 rfl rfl rfl rfl) ?_
       refine AD1.rp rfl rfl rfl (fun _ _ h => h) (rp_move rfl rfl) ?_
       refine AD1.rp rfl rfl rfl (fun _ _ h => h) (rp_move rfl rfl) ?_
       refine AD1.rp rfl rfl rfl (fun _ _ h => h) (rp_move rfl rfl) ?_
       refine AD1.rp rfl rfl rfl (fun _ _ h => h) (rp_index_map Try.underlying50 inf56 rfl rfl rfl rfl (by assumption)) ?_
       refine AD1.rp rfl rfl rfl (fun _ _ h => h) (rp_field_ad Try.underlying56 rfl rfl rfl inf3 (by decide) rfl) ?_
       refine AD1.rd rfl rfl rfl (fun _ _ h => h) (rd_load_ad Try.underlying3 rfl rfl rfl rfl) ?_
       refine AD1.rp rfl rfl rfl (fun _ _ h => h) (rp_index_map Try.underlying40 inf3 rfl rfl rfl rfl (by assumption)) ?_
       refine AD1.rd rfl rfl rfl (fun _ _ h => h) (rd_load_ad Try.underlying3 rfl rfl rfl rfl) ?_
       refine AD1.rp rfl rfl rfl (fun _ _ h => h) (rp_add rfl rfl rfl (by first | omega | (dsimp only; omega))) ?_
       refine AD1.rp rfl rfl rfl (fun _ _ h => h) (rp_move rfl rfl) ?_
       refine AD1.rp rfl rfl rfl (fun _ _ h => h) (rp_move rfl rfl) ?_
       refine AD1.rp rfl rfl rfl (fun _ _ h => h) (rp_index_map Try.underlying40 inf3 rfl rfl rfl rfl (by assumption)) ?_
       refine AD1.rd rfl rfl rfl (fun _ _ h => h) (rd_load_ad Try.underlying3 rfl rfl rfl rfl) ?_
       refine AD1.rp rfl rfl rfl (fun _ _ h => h) (rp_sub rfl rfl rfl (by first | omega | (dsimp only; omega))) ?_
       refine AD1.rp rfl rfl rfl (fun _ _ h => h) (rp_assign rfl rfl) ?_
       refine AD1.nil ?_
       try simp only [thenS, S.put]
       refine AW.seq ?_
       refine AW.seq ?_
       refine AW.region ?_
       refine AL.rp rfl rfl (rp_move rfl rfl) ?_
       (refine AL.rp rfl rfl (rp_gtrF rfl rfl rfl (by first | assumption | omega | (dsimp only; omega))) ?_)
       refine AL.nil ?_
       try simp only [thenS, S.put]
       refine AW.condF rfl ?_
       refine AW.skip ?_
       try simp only [thenS]
       refine AW.draw [(0, true), (1, true), (2, true), (3, true), (4, true), (5, true), (6, true), (7, true), (8, true), (9, true), (10, true), (11, true), (12, true), (13, true), (14, true), (15, true), (16, true), (17, true), (18, true), (19, false), (20, false), (21, false), (22, false)] (fun i => !([20, 21, 22] : List Nat).contains i) 23 (by kernel_rfl) (by kernel_rfl) rfl (by kernel_rfl) ?_
       refine AD1.rp rfl rfl rfl (fun _ _ h => h) (rp_field_ref Try.underlying52 rfl rfl rfl inf50 (by decide) rfl) ?_
       refine AD1.rd rfl rfl rfl (fun _ _ h => h) (rd_load_ref Try.underlying50 rfl rfl rfl rfl rfl rfl) ?_
       refine AD1.rp rfl rfl rfl (fun _ _ h => h) (rp_move rfl rfl) ?_
       refine AD1.rp rfl rfl rfl (fun _ _ h => h) (rp_move rfl rfl) ?_
       refine AD1.rp rfl rfl rfl (fun _ _ h => h) (rp_index_map Try.underlying50 inf56 rfl rfl rfl rfl (by assumption)) ?_
       refine AD1.rp rfl rfl rfl (fun _ _ h => h) (rp_field_ad Try.underlying56 rfl rfl rfl inf3 (by decide) rfl) ?_
       refine AD1.rd rfl rfl rfl (fun _ _ h => h) (rd_load_ad Try.underlying3 rfl rfl rfl rfl) ?_
       refine AD1.rp rfl rfl rfl (fun _ _ h => h) (rp_move rfl rfl) ?_
       refine AD1.rp rfl rfl rfl (fun _ _ h => h) (rp_move rfl rfl) ?_
       refine AD1.rp rfl rfl rfl (fun _ _ h => h) (rp_index_map Try.underlying50 inf56 rfl rfl rfl rfl (by assumption)) ?_
       refine AD1.rp rfl rfl rfl (fun _ _ h => h) (rp_field_ad Try.underlying56 rfl rfl rfl inf3 (by decide) rfl) ?_
       refine AD1.rd rfl rfl rfl (fun _ _ h => h) (rd_load_ad Try.underlying3 rfl rfl rfl rfl) ?_
       refine AD1.rp rfl rfl rfl (fun _ _ h => h) (rp_move rfl rfl) ?_
       refine AD1.rp rfl rfl rfl (fun _ _ h => h) (rp_move rfl rfl) ?_
       refine AD1.rp rfl rfl rfl (fun _ _ h => h) (rp_move rfl rfl) ?_
       refine AD1.rp rfl rfl rfl (fun _ _ h => h) (rp_index_map Try.underlying50 inf56 rfl rfl rfl rfl (by assumption)) ?_
       refine AD1.rp rfl rfl rfl (fun _ _ h => h) (rp_field_ad Try.underlying56 rfl rfl rfl inf3 (by decide) rfl) ?_
       refine AD1.rd rfl rfl rfl (fun _ _ h => h) (rd_load_ad Try.underlying3 rfl rfl rfl rfl) ?_
       refine AD1.rp rfl rfl rfl (fun _ _ h => h) (rp_build (vs := [(0, _), (1, _), (2, _), (3, _)]) (zs := [.d (.p (.int .i64 0)), .d (.p (.int .i64 0)), .d (.p (.int .i64 0)), .d (.p (.int .i64 0))]) pl56 inf56 rfl rfl rfl rfl) ?_
       refine AD1.go ?_
       refine AD2.sm rfl rfl (sm_slice (vs := [(0, _)]) (zs := [.d (.p (.int .i64 0)), .d (.p (.int .i64 0)), .d (.p (.int .i64 0)), .d (.p (.int .i64 0))]) 115 Try.underlying50 inf56 rfl rfl (by decide) (by decide) (by decide) rfl rfl rfl rfl (by simp [S.clean, S.put, S.newObj, S.forget, V.has, V.hasL, junkIf, setL, V.cs, hasL_i, hasL_b, hasL_s, hasL_n, hasL_rep, hasL_flat, hasL_append, -List.map_set]) rfl rfl) ?_
       refine AD2.go ?_
       refine AD3.st rfl rfl rfl (st_appendF Try.underlying50 inf56 rfl (by decide) rfl rfl rfl rfl rfl rfl (by first | assumption | rfl | (simp; done)) (by simp [S.clean, S.put, S.newObj, S.forget, V.has, V.hasL, junkIf, setL, V.cs, hasL_i, hasL_b, hasL_s, hasL_n, hasL_rep, hasL_flat, hasL_append, -List.map_set]) rfl rfl rfl rfl rfl rfl rfl (by decide) (by omega) (by omega) rfl) ?_
       simp only [S.forget, S.put, S.newObj, junkIf, V.has, V.hasL, hasL_i, hasL_b, hasL_s, hasL_d, hasL_n, hasL_rep, hasL_flat, hasL_append, List.map_cons, List.map_nil, List.filter_cons, List.filter_nil, Nat.reduceBNe, Nat.reduceBEq, eq_self, bne_self_eq_false,  Bool.not_true, Bool.not_false, Bool.or_false, Bool.or_true, Bool.false_or, Bool.true_or, if_true, if_false, Bool.false_eq_true, ite_true, ite_false, ↓reduceIte, beq_self_eq_true, Nat.reduceEqDiff]
       refine AD3.rp1 rfl rfl rfl rfl (rp_field_ref Try.underlying52 rfl rfl rfl inf50 (by decide) rfl) ?_
       (refine AD3.st rfl rfl rfl (st_store inf50 rfl rfl rfl rfl rfl rfl rfl (by first | decide | (simp; done)) rfl) ?_)
       refine AD3.nil ?_
       try simp only [thenS, S.put, S.newObj, setL, V.cs, List.length_cons, List.length_nil, List.take_succ_cons, List.take_zero, List.drop_succ_cons, List.drop_zero, List.drop_nil, List.nil_append, List.cons_append, List.append_nil, Nat.zero_add, Nat.reduceAdd, List.map_cons, List.map_nil, List.set_cons_zero, List.set_cons_succ]
       refine AW.region ?_
       refine AL.rp rfl rfl (rp_move rfl rfl) ?_
       refine AL.rp rfl rfl (rp_add rfl rfl rfl (by first | omega | (dsimp only; omega))) ?_
       refine AL.rp rfl rfl (rp_assign rfl rfl) ?_
       refine AL.nil ?_
       try simp only [thenS, S.put]
       refine ⟨_, ?_, ⟨i + 1, by omega, fun j y hj hy' => ?_, rfl⟩, ?_⟩
       ·rw [hsn2]; exact (Less.of rfl (by repeat (first | exact trivial | refine ⟨⟨_, rfl, Wk.refl _⟩, ?_⟩ | refine ⟨⟨_, rfl, Wk.nil _ _⟩, ?_⟩ | refine ⟨⟨_, rfl, Wk.junk _⟩, ?_⟩)) (by repeat (first | exact trivial | refine ⟨rfl, ?_⟩)) rfl)
       ·by_cases ej : i = j
        ·subst ej
         rw [hy] at hy'
         simp only [Option.some.injEq] at hy'
         subst hy'
         rw [hpw]; omega
        ·exact hik j y (by omega) hy'
       ·simp [S.nat, fnd]; omega
     ·obtain rfl : i = la := by omega
      have hfull : A.take i = A := List.take_of_length_le (by omega)
      rw [hfull] at hfl2 ⊢
      refine AW.seq ?_
      refine AW.seq ?_
      refine AW.region ?_
      refine AL.rp rfl rfl (rp_move rfl rfl) ?_
      refine AL.rp rfl rfl (rp_move rfl rfl) ?_
      refine AL.rp rfl rfl (rp_len_map Try.underlying50 rfl rfl (by assumption)) ?_
      (refine AL.rp rfl rfl (rp_lssF rfl rfl rfl (by first | assumption | omega | (dsimp only; omega))) ?_)
      refine AL.nil ?_
      try simp only [thenS, S.put]
      refine AW.condF rfl ?_
      refine AW.exit ?_
      try simp only [thenS, inBlockS, ↓reduceIte, Nat.reduceEqDiff]
      refine AW.freezeH 10 1 32 (A.map arD) rfl rfl rfl (by decide) rfl rfl (by rw [List.length_map, hAl]) (by omega) (rowsF (enc := arD) (sz := 4) (l := A) (fun _ => rfl) rfl) ?_
      refine AW.less (s' := ⟨134, [(2, .ref 2 0), (5, .ref 5 0), (7, .d (intsN D)), (8, .ref 8 0), (9, .i k), (10, .ref 10 0)], [(2, ⟨24, [.i 0, .nil], false, 0⟩), (5, ⟨24, [.i a, .d (stsD Ts)], false, 0⟩), (8, ⟨24, [.i a, .own 101 2 k (decide (k = 0))], false, 0⟩), (101, ⟨52, (L.take k).flatMap stV2, decide (k = 0), 2⟩), (10, ⟨52, [.i F, .d (arsD A)], false, 0⟩)], []⟩) (Less.of rfl (by repeat (first | exact trivial | refine ⟨⟨_, rfl, Wk.refl _⟩, ?_⟩ | refine ⟨⟨_, rfl, Wk.nil _ _⟩, ?_⟩ | refine ⟨⟨_, rfl, Wk.junk _⟩, ?_⟩)) (by repeat (first | exact trivial | refine ⟨rfl, ?_⟩)) rfl) ?_
      refine AW.region ?_
      refine AL.rp rfl rfl (rp_field_ref Try.underlying24 rfl rfl rfl inf22 (by decide) rfl) ?_
      refine AL.rd rfl rfl (rd_load_ref Try.underlying22 rfl rfl rfl rfl rfl rfl) ?_
      refine AL.rd rfl rfl (rd_loads_ref Try.underlying52 rfl inf52 rfl rfl rfl rfl rfl rfl) ?_
      refine AL.sm rfl (sm_slice (vs := [(0, _)]) (zs := [.d (.p (.int .i64 0)), .d (.p (.slice none 0 0))]) 121 Try.underlying22 inf52 rfl rfl (by decide) (by decide) (by decide) rfl rfl rfl rfl (by simp [S.clean, S.put, S.newObj, S.forget, V.has, V.hasL, junkIf, setL, V.cs, hasL_i, hasL_b, hasL_s, hasL_n, hasL_rep, hasL_flat, hasL_append, -List.map_set]) rfl rfl) ?_
      refine AL.st rfl (st_appendF Try.underlying22 inf52 rfl (by decide) rfl rfl rfl rfl rfl rfl (by first | assumption | rfl | (simp; done)) (by simp [S.clean, S.put, S.newObj, S.forget, V.has, V.hasL, junkIf, setL, V.cs, hasL_i, hasL_b, hasL_s, hasL_n, hasL_rep, hasL_flat, hasL_append, -List.map_set]) rfl rfl rfl rfl rfl rfl rfl (by decide) (by omega) (by omega) rfl) ?_
      simp only [S.forget, S.put, S.newObj, junkIf, V.has, V.hasL, hasL_i, hasL_b, hasL_s, hasL_d, hasL_n, hasL_rep, hasL_flat, hasL_append, List.map_cons, List.map_nil, List.filter_cons, List.filter_nil, Nat.reduceBNe, Nat.reduceBEq, eq_self, bne_self_eq_false,  Bool.not_true, Bool.not_false, Bool.or_false, Bool.or_true, Bool.false_or, Bool.true_or, if_true, if_false, Bool.false_eq_true, ite_true, ite_false, ↓reduceIte, beq_self_eq_true, Nat.reduceEqDiff]
      refine AL.rp rfl rfl (rp_field_ref Try.underlying24 rfl rfl rfl inf22 (by decide) rfl) ?_
      (refine AL.st rfl (st_store inf22 rfl rfl rfl rfl rfl rfl rfl (by first | decide | (simp; done)) rfl) ?_)
      refine AL.nil ?_
      try simp only [thenS, S.put, S.newObj, setL, V.cs, List.length_cons, List.length_nil, List.take_succ_cons, List.take_zero, List.drop_succ_cons, List.drop_zero, List.drop_nil, List.nil_append, List.cons_append, List.append_nil, Nat.zero_add, Nat.reduceAdd, List.map_cons, List.map_nil, List.set_cons_zero, List.set_cons_succ]
      refine AW.region ?_
      refine AL.rp rfl rfl (rp_move rfl rfl) ?_
      refine AL.rp rfl rfl (rp_add rfl rfl rfl (by first | omega | (dsimp only; omega))) ?_
      refine AL.rp rfl rfl (rp_assign rfl rfl) ?_
      refine AL.nil ?_
      try simp only [thenS, S.put]
      refine ⟨_, ?_, ⟨k + 1, by omega, fun q z y hq hz' hy' => ?_, rfl⟩, ?_⟩
      ·rw [hsn]; exact (Less.of rfl (by repeat (first | exact trivial | refine ⟨⟨_, rfl, Wk.refl _⟩, ?_⟩ | refine ⟨⟨_, rfl, Wk.nil _ _⟩, ?_⟩ | refine ⟨⟨_, rfl, Wk.junk _⟩, ?_⟩)) (by repeat (first | exact trivial | refine ⟨rfl, ?_⟩)) rfl)
      ·by_cases eq : k = q
       ·subst eq
        rw [hx] at hz'
        simp only [Option.some.injEq] at hz'
        subst hz'
        obtain ⟨j, hj⟩ := List.getElem?_of_mem hy'
        exact hik j y (by have := (List.getElem?_eq_some_iff.1 hj).1; omega) hj
       ·exact hok q z y (by omega) hz' hy'
      ·simp [S.nat, fnd]; omega
   ·obtain rfl : k = n := by omega
    obtain ⟨he0, hM, hX⟩ := hgood (fun q x y hx hy => hok q x y (by have := (List.getElem?_eq_some_iff.1 hx).1; omega) hx hy)
    rw [he0, hM, hX]
    rw [List.take_of_length_le (by omega)]
    refine AW.seq ?_
    refine AW.seq ?_
    refine AW.region ?_
    refine AL.rp rfl rfl (rp_move rfl rfl) ?_
    refine AL.rp rfl rfl (rp_field_ref Try.underlying24 rfl rfl rfl inf22 (by decide) rfl) ?_
    refine AL.rd rfl rfl (rd_load_ref Try.underlying22 rfl rfl rfl rfl rfl rfl) ?_
    refine AL.rp rfl rfl (rp_len_map Try.underlying22 rfl rfl (by assumption)) ?_
    (refine AL.rp rfl rfl (rp_lssF rfl rfl rfl (by first | assumption | omega | (dsimp only; omega))) ?_)
    refine AL.nil ?_
    try simp only [thenS, S.put]
    refine AW.condF rfl ?_
    refine AW.exit ?_
    try simp only [thenS, inBlockS, ↓reduceIte, Nat.reduceEqDiff]
    refine AW.seq ?_
    refine AW.seq ?_
    refine AW.freezeH 8 1 32 (L.map stD) rfl rfl rfl (by decide) rfl rfl (by rw [List.length_map, hLl]) (by omega) (rowsF (enc := stD) (sz := 2) (l := L) (fun _ => rfl) rfl) ?_
    refine AW.less (s' := ⟨134, [(2, .ref 2 0), (5, .ref 5 0), (7, .d (intsN D)), (8, .ref 8 0)], [(2, ⟨24, [.i 0, .nil], false, 0⟩), (5, ⟨24, [.i a, .d (stsD Ts)], false, 0⟩), (8, ⟨24, [.i a, .d (stsD L)], false, 0⟩)], []⟩) (Less.of rfl (by repeat (first | exact trivial | refine ⟨⟨_, rfl, Wk.refl _⟩, ?_⟩ | refine ⟨⟨_, rfl, Wk.nil _ _⟩, ?_⟩ | refine ⟨⟨_, rfl, Wk.junk _⟩, ?_⟩)) (by repeat (first | exact trivial | refine ⟨rfl, ?_⟩)) rfl) ?_
    by_cases ha0 : a < 0
    ·rw [if_pos ha0]
     refine AW.region ?_
     refine AL.rp rfl rfl (rp_field_ref Try.underlying24 rfl rfl rfl inf3 (by decide) rfl) ?_
     refine AL.rd rfl rfl (rd_load_ref Try.underlying3 rfl rfl rfl rfl rfl rfl) ?_
     (refine AL.rp rfl rfl (rp_lssT rfl rfl rfl (by first | assumption | omega | (dsimp only; omega))) ?_)
     refine AL.nil ?_
     try simp only [thenS, S.put]
     refine AW.condT rfl ?_
     refine AW.seq ?_
     refine AW.region ?_
     refine AL.rd rfl rfl (rd_loads_ref Try.underlying24 rfl inf24 rfl rfl rfl rfl rfl rfl) ?_
     refine AL.st rfl (st_store_any inf24 rfl rfl rfl rfl rfl rfl rfl rfl (by first | decide | (simp; done) | (simp; omega)) rfl) ?_
     refine AL.rp rfl rfl (rp_assign rfl rfl) ?_
     refine AL.rp rfl rfl (rp_assign rfl rfl) ?_
     refine AL.nil ?_
     try simp only [thenS, S.put, S.newObj, setL, V.cs, List.length_cons, List.length_nil, List.take_succ_cons, List.take_zero, List.drop_succ_cons, List.drop_zero, List.drop_nil, List.nil_append, List.cons_append, List.append_nil, Nat.zero_add, Nat.reduceAdd, List.map_cons, List.map_nil, List.set_cons_zero, List.set_cons_succ]
     refine AW.ret ?_
     exact ⟨[_, _, _], ⟨⟨2, 0, _, _, rfl, rfl, rfl, Try.underlying24, .inr ⟨rfl, _, _, _, _, inf24, rfl, rfl, rfl⟩⟩, rfl, rfl, trivial⟩, .inr ⟨rfl, rfl⟩, by simp [tupOf, V.pure, V.has, V.hasL]⟩
    ·obtain ⟨p, rfl⟩ : ∃ p : Nat, a = p := ⟨a.toNat, by omega⟩
     obtain ⟨dp, hdp⟩ := get_lt hDl (show p < k by omega)
     have hXd : dAt D ((p : Int)).toNat = (dp : Int) := by simp only [Int.toNat_natCast]; exact dAt_of hdp
     rw [if_neg ha0, hXd]
     refine AW.region ?_
     refine AL.rp rfl rfl (rp_field_ref Try.underlying24 rfl rfl rfl inf3 (by decide) rfl) ?_
     refine AL.rd rfl rfl (rd_load_ref Try.underlying3 rfl rfl rfl rfl rfl rfl) ?_
     (refine AL.rp rfl rfl (rp_lssF rfl rfl rfl (by first | assumption | omega | (dsimp only; omega))) ?_)
     refine AL.nil ?_
     try simp only [thenS, S.put]
     refine AW.condF rfl ?_
     refine AW.skip ?_
     try simp only [thenS]
     refine AW.seq ?_
     refine AW.drawT (N := ?N5) (l := #[false, false, false, false, false, false, false, false, false]) 9 (by kernel_rfl) rfl rfl ?_ ?_
     rotate_left
     refine AN.rp (i := 1) (l' := #[false, true, false, false, false, false, false, false, false]) rfl rfl rfl (fun _ _ h => h) (by kernel_rfl) rfl (rp_move rfl rfl) ?_
     refine AN.rp (i := 2) (l' := #[false, true, true, false, false, false, false, false, false]) rfl rfl rfl (fun _ _ h => h) (by kernel_rfl) rfl (rp_field_ref Try.underlying24 rfl rfl rfl inf3 (by decide) rfl) ?_
     refine AN.br2 (i := 0) (j := 3) (by kernel_rfl) ?_ ?_
     ·refine BR.mk (l' := #[true, true, true, false, false, false, false, false, false]) rfl rfl rfl ?_
      refine ST.rd rfl (rd_loads_ref Try.underlying24 rfl inf24 rfl rfl rfl rfl rfl rfl) ?_
      refine AN.br2 (i := 3) (j := 6) (by kernel_rfl) ?_ ?_
      ·refine BR.mk (l' := #[true, true, true, true, false, false, false, false, false]) rfl rfl rfl ?_
       refine ST.rd rfl (rd_load_ref Try.underlying3 rfl rfl rfl rfl rfl rfl) ?_
       refine AN.rp (i := 4) (l' := #[true, true, true, true, true, false, false, false, false]) rfl rfl rfl (fun _ _ h => h) (by kernel_rfl) rfl (rp_index_map Try.underlying40 inf3 rfl rfl rfl rfl (by assumption)) ?_
       refine AN.br2 (i := 5) (j := 6) (by kernel_rfl) ?_ ?_
       ·refine BR.mk (l' := #[true, true, true, true, true, true, false, false, false]) rfl rfl rfl ?_
        refine ST.rd rfl (rd_load_ad Try.underlying3 rfl rfl rfl rfl) ?_
        refine AN.br1 (i := 6) (by kernel_rfl) ?_
        refine BR.mk (l' := #[true, true, true, true, true, true, true, false, false]) rfl rfl rfl ?_
        refine ST.st (st_store_any inf24 rfl rfl rfl rfl rfl rfl rfl rfl (by first | decide | (simp; done) | (simp; omega)) rfl) ?_
        refine AN.rp (i := 7) (l' := #[true, true, true, true, true, true, true, true, false]) rfl rfl rfl (fun _ _ h => h) (by kernel_rfl) rfl (rp_assign rfl rfl) ?_
        refine AN.rp (i := 8) (l' := #[true, true, true, true, true, true, true, true, true]) rfl rfl rfl (fun _ _ h => h) (by kernel_rfl) rfl (rp_assign rfl rfl) ?_
        refine AN.nil (by kernel_rfl) ?_
        show Less _ _
        exact Less.dd _
       ·refine BR.mk (l' := #[true, true, true, true, true, false, true, false, false]) rfl rfl rfl ?_
        refine ST.st (st_store_any inf24 rfl rfl rfl rfl rfl rfl rfl rfl (by first | decide | (simp; done) | (simp; omega)) rfl) ?_
        refine AN.br1 (i := 5) (by kernel_rfl) ?_
        refine BR.mk (l' := #[true, true, true, true, true, true, true, false, false]) rfl rfl rfl ?_
        refine ST.rd rfl (rd_load_ad Try.underlying3 rfl rfl rfl rfl) ?_
        refine AN.rp (i := 7) (l' := #[true, true, true, true, true, true, true, true, false]) rfl rfl rfl (fun _ _ h => h) (by kernel_rfl) rfl (rp_assign rfl rfl) ?_
        refine AN.rp (i := 8) (l' := #[true, true, true, true, true, true, true, true, true]) rfl rfl rfl (fun _ _ h => h) (by kernel_rfl) rfl (rp_assign rfl rfl) ?_
        refine AN.nil (by kernel_rfl) ?_
        show Less _ _
        (try simp only [S.put, S.newObj, setL, V.cs, List.length_cons, List.length_nil, List.take_succ_cons, List.take_zero, List.drop_succ_cons, List.drop_zero, List.drop_nil, List.nil_append, List.cons_append, List.append_nil, Nat.zero_add, Nat.reduceAdd, List.map_cons, List.map_nil, List.set_cons_zero, List.set_cons_succ])
        try simp only [S.dd, ddL, List.contains_cons, List.contains_nil, Nat.reduceBEq, beq_self_eq_true, Bool.or_false, Bool.or_true, Bool.false_or, Bool.true_or, Bool.or_self, if_true, if_false, Bool.false_eq_true, ↓reduceIte]
        exact (Less.of rfl (by repeat (first | exact trivial | refine ⟨⟨_, rfl, Wk.refl _⟩, ?_⟩)) (by repeat (first | exact trivial | refine ⟨rfl, ?_⟩)) rfl)
      ·refine BR.mk (l' := #[true, true, true, false, false, false, true, false, false]) rfl rfl rfl ?_
       refine ST.st (st_store_any inf24 rfl rfl rfl rfl rfl rfl rfl rfl (by first | decide | (simp; done) | (simp; omega)) rfl) ?_
       refine AN.br1 (i := 3) (by kernel_rfl) ?_
       refine BR.mk (l' := #[true, true, true, true, false, false, true, false, false]) rfl rfl rfl ?_
       refine ST.rd rfl (rd_load_ref Try.underlying3 rfl rfl rfl rfl rfl rfl) ?_
       refine AN.rp (i := 4) (l' := #[true, true, true, true, true, false, true, false, false]) rfl rfl rfl (fun _ _ h => h) (by kernel_rfl) rfl (rp_index_map Try.underlying40 inf3 rfl rfl rfl rfl (by assumption)) ?_
       refine AN.br1 (i := 5) (by kernel_rfl) ?_
       refine BR.mk (l' := #[true, true, true, true, true, true, true, false, false]) rfl rfl rfl ?_
       refine ST.rd rfl (rd_load_ad Try.underlying3 rfl rfl rfl rfl) ?_
       refine AN.rp (i := 7) (l' := #[true, true, true, true, true, true, true, true, false]) rfl rfl rfl (fun _ _ h => h) (by kernel_rfl) rfl (rp_assign rfl rfl) ?_
       refine AN.rp (i := 8) (l' := #[true, true, true, true, true, true, true, true, true]) rfl rfl rfl (fun _ _ h => h) (by kernel_rfl) rfl (rp_assign rfl rfl) ?_
       refine AN.nil (by kernel_rfl) ?_
       show Less _ _
       (try simp only [S.put, S.newObj, setL, V.cs, List.length_cons, List.length_nil, List.take_succ_cons, List.take_zero, List.drop_succ_cons, List.drop_zero, List.drop_nil, List.nil_append, List.cons_append, List.append_nil, Nat.zero_add, Nat.reduceAdd, List.map_cons, List.map_nil, List.set_cons_zero, List.set_cons_succ])
       try simp only [S.dd, ddL, List.contains_cons, List.contains_nil, Nat.reduceBEq, beq_self_eq_true, Bool.or_false, Bool.or_true, Bool.false_or, Bool.true_or, Bool.or_self, if_true, if_false, Bool.false_eq_true, ↓reduceIte]
       exact (Less.of rfl (by repeat (first | exact trivial | refine ⟨⟨_, rfl, Wk.refl _⟩, ?_⟩)) (by repeat (first | exact trivial | refine ⟨rfl, ?_⟩)) rfl)
     ·refine BR.mk (l' := #[false, true, true, true, false, false, false, false, false]) rfl rfl rfl ?_
      refine ST.rd rfl (rd_load_ref Try.underlying3 rfl rfl rfl rfl rfl rfl) ?_
      refine AN.rp (i := 4) (l' := #[false, true, true, true, true, false, false, false, false]) rfl rfl rfl (fun _ _ h => h) (by kernel_rfl) rfl (rp_index_map Try.underlying40 inf3 rfl rfl rfl rfl (by assumption)) ?_
      refine AN.br2 (i := 0) (j := 5) (by kernel_rfl) ?_ ?_
      ·refine BR.mk (l' := #[true, true, true, true, true, false, false, false, false]) rfl rfl rfl ?_
       refine ST.rd rfl (rd_loads_ref Try.underlying24 rfl inf24 rfl rfl rfl rfl rfl rfl) ?_
       refine AN.br2 (i := 5) (j := 6) (by kernel_rfl) ?_ ?_
       ·refine BR.mk (l' := #[true, true, true, true, true, true, false, false, false]) rfl rfl rfl ?_
        refine ST.rd rfl (rd_load_ad Try.underlying3 rfl rfl rfl rfl) ?_
        refine AN.br1 (i := 6) (by kernel_rfl) ?_
        refine BR.mk (l' := #[true, true, true, true, true, true, true, false, false]) rfl rfl rfl ?_
        refine ST.st (st_store_any inf24 rfl rfl rfl rfl rfl rfl rfl rfl (by first | decide | (simp; done) | (simp; omega)) rfl) ?_
        refine AN.rp (i := 7) (l' := #[true, true, true, true, true, true, true, true, false]) rfl rfl rfl (fun _ _ h => h) (by kernel_rfl) rfl (rp_assign rfl rfl) ?_
        refine AN.rp (i := 8) (l' := #[true, true, true, true, true, true, true, true, true]) rfl rfl rfl (fun _ _ h => h) (by kernel_rfl) rfl (rp_assign rfl rfl) ?_
        refine AN.nil (by kernel_rfl) ?_
        show Less _ _
        (try simp only [S.put, S.newObj, setL, V.cs, List.length_cons, List.length_nil, List.take_succ_cons, List.take_zero, List.drop_succ_cons, List.drop_zero, List.drop_nil, List.nil_append, List.cons_append, List.append_nil, Nat.zero_add, Nat.reduceAdd, List.map_cons, List.map_nil, List.set_cons_zero, List.set_cons_succ])
        try simp only [S.dd, ddL, List.contains_cons, List.contains_nil, Nat.reduceBEq, beq_self_eq_true, Bool.or_false, Bool.or_true, Bool.false_or, Bool.true_or, Bool.or_self, if_true, if_false, Bool.false_eq_true, ↓reduceIte]
        exact (Less.of rfl (by repeat (first | exact trivial | refine ⟨⟨_, rfl, Wk.refl _⟩, ?_⟩)) (by repeat (first | exact trivial | refine ⟨rfl, ?_⟩)) rfl)
       ·refine BR.mk (l' := #[true, true, true, true, true, false, true, false, false]) rfl rfl rfl ?_
        refine ST.st (st_store_any inf24 rfl rfl rfl rfl rfl rfl rfl rfl (by first | decide | (simp; done) | (simp; omega)) rfl) ?_
        refine AN.br1 (i := 5) (by kernel_rfl) ?_
        refine BR.mk (l' := #[true, true, true, true, true, true, true, false, false]) rfl rfl rfl ?_
        refine ST.rd rfl (rd_load_ad Try.underlying3 rfl rfl rfl rfl) ?_
        refine AN.rp (i := 7) (l' := #[true, true, true, true, true, true, true, true, false]) rfl rfl rfl (fun _ _ h => h) (by kernel_rfl) rfl (rp_assign rfl rfl) ?_
        refine AN.rp (i := 8) (l' := #[true, true, true, true, true, true, true, true, true]) rfl rfl rfl (fun _ _ h => h) (by kernel_rfl) rfl (rp_assign rfl rfl) ?_
        refine AN.nil (by kernel_rfl) ?_
        show Less _ _
        (try simp only [S.put, S.newObj, setL, V.cs, List.length_cons, List.length_nil, List.take_succ_cons, List.take_zero, List.drop_succ_cons, List.drop_zero, List.drop_nil, List.nil_append, List.cons_append, List.append_nil, Nat.zero_add, Nat.reduceAdd, List.map_cons, List.map_nil, List.set_cons_zero, List.set_cons_succ])
        try simp only [S.dd, ddL, List.contains_cons, List.contains_nil, Nat.reduceBEq, beq_self_eq_true, Bool.or_false, Bool.or_true, Bool.false_or, Bool.true_or, Bool.or_self, if_true, if_false, Bool.false_eq_true, ↓reduceIte]
        exact (Less.of rfl (by repeat (first | exact trivial | refine ⟨⟨_, rfl, Wk.refl _⟩, ?_⟩)) (by repeat (first | exact trivial | refine ⟨rfl, ?_⟩)) rfl)
      ·refine BR.mk (l' := #[false, true, true, true, true, true, false, false, false]) rfl rfl rfl ?_
       refine ST.rd rfl (rd_load_ad Try.underlying3 rfl rfl rfl rfl) ?_
       refine AN.br1 (i := 0) (by kernel_rfl) ?_
       refine BR.mk (l' := #[true, true, true, true, true, true, false, false, false]) rfl rfl rfl ?_
       refine ST.rd rfl (rd_loads_ref Try.underlying24 rfl inf24 rfl rfl rfl rfl rfl rfl) ?_
       refine AN.br1 (i := 6) (by kernel_rfl) ?_
       refine BR.mk (l' := #[true, true, true, true, true, true, true, false, false]) rfl rfl rfl ?_
       refine ST.st (st_store_any inf24 rfl rfl rfl rfl rfl rfl rfl rfl (by first | decide | (simp; done) | (simp; omega)) rfl) ?_
       refine AN.rp (i := 7) (l' := #[true, true, true, true, true, true, true, true, false]) rfl rfl rfl (fun _ _ h => h) (by kernel_rfl) rfl (rp_assign rfl rfl) ?_
       refine AN.rp (i := 8) (l' := #[true, true, true, true, true, true, true, true, true]) rfl rfl rfl (fun _ _ h => h) (by kernel_rfl) rfl (rp_assign rfl rfl) ?_
       refine AN.nil (by kernel_rfl) ?_
       show Less _ _
       (try simp only [S.put, S.newObj, setL, V.cs, List.length_cons, List.length_nil, List.take_succ_cons, List.take_zero, List.drop_succ_cons, List.drop_zero, List.drop_nil, List.nil_append, List.cons_append, List.append_nil, Nat.zero_add, Nat.reduceAdd, List.map_cons, List.map_nil, List.set_cons_zero, List.set_cons_succ])
       try simp only [S.dd, ddL, List.contains_cons, List.contains_nil, Nat.reduceBEq, beq_self_eq_true, Bool.or_false, Bool.or_true, Bool.false_or, Bool.true_or, Bool.or_self, if_true, if_false, Bool.false_eq_true, ↓reduceIte]
       exact (Less.of rfl (by repeat (first | exact trivial | refine ⟨⟨_, rfl, Wk.refl _⟩, ?_⟩)) (by repeat (first | exact trivial | refine ⟨rfl, ?_⟩)) rfl)
     (try simp only [S.put, S.newObj, setL, V.cs, List.length_cons, List.length_nil, List.take_succ_cons, List.take_zero, List.drop_succ_cons, List.drop_zero, List.drop_nil, List.nil_append, List.cons_append, List.append_nil, Nat.zero_add, Nat.reduceAdd, List.map_cons, List.map_nil, List.set_cons_zero, List.set_cons_succ])
     try simp only [S.dd, ddL, List.contains_cons, List.contains_nil, Nat.reduceBEq, beq_self_eq_true, Bool.or_false, Bool.or_true, Bool.false_or, Bool.true_or, Bool.or_self, if_true, if_false, Bool.false_eq_true, ↓reduceIte]
     try simp only [thenS, S.put, S.newObj, setL, V.cs, List.length_cons, List.length_nil, List.take_succ_cons, List.take_zero, List.drop_succ_cons, List.drop_zero, List.drop_nil, List.nil_append, List.cons_append, List.append_nil, Nat.zero_add, Nat.reduceAdd, List.map_cons, List.map_nil, List.set_cons_zero, List.set_cons_succ]
     refine AW.ret ?_
     exact ⟨[_, _, _], ⟨⟨2, 0, _, _, rfl, rfl, rfl, Try.underlying24, .inr ⟨rfl, _, _, _, _, inf24, rfl, rfl, rfl⟩⟩, rfl, rfl, trivial⟩, .inr ⟨rfl, rfl⟩, by simp [tupOf, V.pure, V.has, V.hasL]⟩
  ·have hends := resI_ne (am_FarEnds0 (trimM m)) h1
   rw [pushE_dis h0 h1]
   obtain ⟨e, he⟩ : ∃ e, disE (enD (trimM m)) (trimM m) = e := ⟨_, rfl⟩
   rw [he] at h1 hends ⊢
   obtain ⟨st, sts⟩ := m
   obtain ⟨⟨a, Ts⟩, hT⟩ : ∃ T, trimM ⟨st, sts⟩ = T := ⟨_, rfl⟩
   rw [hT] at hcon hends
   refine Fn.intro (n := 134) ⟨Try.func20, rfl, rfl, rfl, rfl⟩ (by simp [V.pure, V.has, V.hasL]) (by simp) fun w0 out => ?_
   refine AW.seq ?_
   refine AW.region ?_
   refine AL.sm rfl (sm_box 1 rfl rfl rfl rfl rfl) ?_
   refine AL.sm rfl (sm_alloc (l := [.d (.p (.int .i64 0)), .d (.p (.slice none 0 0))]) 2 inf24 rfl rfl rfl rfl) ?_
   refine AL.rp rfl rfl (rp_assign rfl rfl) ?_
   refine AL.rp rfl rfl (rp_assign rfl rfl) ?_
   refine AL.nil ?_
   try simp only [thenS, S.put, S.newObj, setL, V.cs, List.length_cons, List.length_nil, List.take_succ_cons, List.take_zero, List.drop_succ_cons, List.drop_zero, List.drop_nil, List.nil_append, List.cons_append, List.append_nil, Nat.zero_add, Nat.reduceAdd, List.map_cons, List.map_nil, List.set_cons_zero, List.set_cons_succ, enum]
   refine AW.seq ?_
   refine AW.region ?_
   refine AL.rd rfl rfl (rd_loads_ref Try.underlying24 rfl inf24 rfl rfl rfl rfl rfl rfl) ?_
   refine AL.call (post := ?pc5) rfl (sm_call (args := [_]) ?hc5 ⟨Try.func57, rfl, rfl, rfl, rfl⟩ rfl rfl rfl rfl) ?_
   case hc5 => exact hcon
   rintro _ rfl -
   try dsimp only
   refine AL.rp rfl rfl (rp_move rfl rfl) ?_
   refine AL.rp rfl rfl (rp_extract rfl rfl rfl) ?_
   refine AL.rp rfl rfl (rp_extract rfl rfl rfl) ?_
   refine AL.sm rfl (sm_alloc (l := [.d (.p (.int .i64 0)), .d (.p (.slice none 0 0))]) 5 inf24 rfl rfl rfl rfl) ?_
   refine AL.st rfl (st_store_any inf24 rfl rfl rfl rfl rfl rfl rfl rfl (by first | decide | (simp; done) | (simp; omega)) rfl) ?_
   refine AL.rp rfl rfl (rp_assign rfl rfl) ?_
   refine AL.nil ?_
   try simp only [thenS, S.put, S.newObj, setL, V.cs, List.length_cons, List.length_nil, List.take_succ_cons, List.take_zero, List.drop_succ_cons, List.drop_zero, List.drop_nil, List.nil_append, List.cons_append, List.append_nil, Nat.zero_add, Nat.reduceAdd, List.map_cons, List.map_nil, List.set_cons_zero, List.set_cons_succ]
   refine AW.seq ?_
   refine AW.seq ?_
   refine AW.region ?_
   refine AL.rp rfl rfl (rp_move rfl rfl) ?_
   (refine AL.rp rfl rfl (rp_neqF rfl rfl rfl (by first | assumption | omega | (dsimp only; omega))) ?_)
   refine AL.nil ?_
   try simp only [thenS, S.put]
   refine AW.condF rfl ?_
   refine AW.skip ?_
   try simp only [thenS]
   refine AW.seq ?_
   refine AW.region ?_
   refine AL.rd rfl rfl (rd_loads_ref Try.underlying24 rfl inf24 rfl rfl rfl rfl rfl rfl) ?_
   refine AL.call (post := ?pc6) rfl (sm_call (args := [_]) ?hc6 ⟨Try.func58, rfl, rfl, rfl, rfl⟩ rfl rfl rfl rfl) ?_
   case hc6 => exact hends
   rintro _ rfl -
   try dsimp only
   refine AL.rp rfl rfl (rp_move rfl rfl) ?_
   refine AL.rp rfl rfl (rp_extract rfl rfl rfl) ?_
   refine AL.rp rfl rfl (rp_extract rfl rfl rfl) ?_
   refine AL.rp rfl rfl (rp_assign rfl rfl) ?_
   refine AL.rp rfl rfl (rp_assign rfl rfl) ?_
   refine AL.nil ?_
   try simp only [thenS, S.put, S.newObj, setL, V.cs, List.length_cons, List.length_nil, List.take_succ_cons, List.take_zero, List.drop_succ_cons, List.drop_zero, List.drop_nil, List.nil_append, List.cons_append, List.append_nil, Nat.zero_add, Nat.reduceAdd, List.map_cons, List.map_nil, List.set_cons_zero, List.set_cons_succ]
   refine AW.seq ?_
   refine AW.seq ?_
   refine AW.region ?_
   refine AL.rp rfl rfl (rp_move rfl rfl) ?_
   (refine AL.rp rfl rfl (rp_neqT rfl rfl rfl (by first | assumption | omega | (dsimp only; omega))) ?_)
   refine AL.nil ?_
   try simp only [thenS, S.put]
   refine AW.condT rfl ?_
   refine AW.seq ?_
   refine AW.region ?_
   refine AL.rp rfl rfl (rp_build (vs := []) (zs := [.d (.p (.int .i64 0)), .d (.p (.slice none 0 0))]) pl24 inf24 rfl rfl rfl rfl) ?_
   refine AL.rp rfl rfl (rp_move rfl rfl) ?_
   refine AL.st rfl (st_store_any inf24 rfl rfl rfl rfl rfl rfl rfl rfl (by first | decide | (simp; done) | (simp; omega)) rfl) ?_
   refine AL.rp rfl rfl (rp_assign rfl rfl) ?_
   refine AL.rp rfl rfl (rp_assign rfl rfl) ?_
   refine AL.nil ?_
   try simp only [thenS, S.put, S.newObj, setL, V.cs, List.length_cons, List.length_nil, List.take_succ_cons, List.take_zero, List.drop_succ_cons, List.drop_zero, List.drop_nil, List.nil_append, List.cons_append, List.append_nil, Nat.zero_add, Nat.reduceAdd, List.map_cons, List.map_nil, List.set_cons_zero, List.set_cons_succ]
   refine AW.ret ?_
   exact ⟨[_, _, _], ⟨⟨2, 0, _, _, rfl, rfl, rfl, Try.underlying24, .inr ⟨rfl, _, _, _, _, inf24, rfl, rfl, rfl⟩⟩, rfl, rfl, trivial⟩, .inl ⟨h1, rfl⟩, by simp [tupOf, V.pure, V.has, V.hasL]⟩
 ·have hcon := am_Trimmed_err h0
  rw [pushE_mach h0]
  obtain ⟨st, sts⟩ := m
  obtain ⟨e, he⟩ : ∃ e, machE ⟨st, sts⟩ = e := ⟨_, rfl⟩
  rw [he] at h0 hcon ⊢
  refine Fn.intro (n := 134) ⟨Try.func20, rfl, rfl, rfl, rfl⟩ (by simp [V.pure, V.has, V.hasL]) (by simp) fun w0 out => ?_
  refine AW.seq ?_
  refine AW.region ?_
  refine AL.sm rfl (sm_box 1 rfl rfl rfl rfl rfl) ?_
  refine AL.sm rfl (sm_alloc (l := [.d (.p (.int .i64 0)), .d (.p (.slice none 0 0))]) 2 inf24 rfl rfl rfl rfl) ?_
  refine AL.rp rfl rfl (rp_assign rfl rfl) ?_
  refine AL.rp rfl rfl (rp_assign rfl rfl) ?_
  refine AL.nil ?_
  try simp only [thenS, S.put, S.newObj, setL, V.cs, List.length_cons, List.length_nil, List.take_succ_cons, List.take_zero, List.drop_succ_cons, List.drop_zero, List.drop_nil, List.nil_append, List.cons_append, List.append_nil, Nat.zero_add, Nat.reduceAdd, List.map_cons, List.map_nil, List.set_cons_zero, List.set_cons_succ, enum]
  refine AW.seq ?_
  refine AW.region ?_
  refine AL.rd rfl rfl (rd_loads_ref Try.underlying24 rfl inf24 rfl rfl rfl rfl rfl rfl) ?_
  refine AL.call (post := ?pc7) rfl (sm_call (args := [_]) ?hc7 ⟨Try.func57, rfl, rfl, rfl, rfl⟩ rfl rfl rfl rfl) ?_
  case hc7 => exact hcon
  rintro _ rfl -
  try dsimp only
  refine AL.rp rfl rfl (rp_move rfl rfl) ?_
  refine AL.rp rfl rfl (rp_extract rfl rfl rfl) ?_
  refine AL.rp rfl rfl (rp_extract rfl rfl rfl) ?_
  refine AL.sm rfl (sm_alloc (l := [.d (.p (.int .i64 0)), .d (.p (.slice none 0 0))]) 5 inf24 rfl rfl rfl rfl) ?_
  refine AL.st rfl (st_store_any inf24 rfl rfl rfl rfl rfl rfl rfl rfl (by first | decide | (simp; done) | (simp; omega)) rfl) ?_
  refine AL.rp rfl rfl (rp_assign rfl rfl) ?_
  refine AL.nil ?_
  try simp only [thenS, S.put, S.newObj, setL, V.cs, List.length_cons, List.length_nil, List.take_succ_cons, List.take_zero, List.drop_succ_cons, List.drop_zero, List.drop_nil, List.nil_append, List.cons_append, List.append_nil, Nat.zero_add, Nat.reduceAdd, List.map_cons, List.map_nil, List.set_cons_zero, List.set_cons_succ]
  refine AW.seq ?_
  refine AW.seq ?_
  refine AW.region ?_
  refine AL.rp rfl rfl (rp_move rfl rfl) ?_
  (refine AL.rp rfl rfl (rp_neqT rfl rfl rfl (by first | assumption | omega | (dsimp only; omega))) ?_)
  refine AL.nil ?_
  try simp only [thenS, S.put]
  refine AW.condT rfl ?_
  refine AW.seq ?_
  refine AW.region ?_
  refine AL.rp rfl rfl (rp_build (vs := []) (zs := [.d (.p (.int .i64 0)), .d (.p (.slice none 0 0))]) pl24 inf24 rfl rfl rfl rfl) ?_
  refine AL.rp rfl rfl (rp_move rfl rfl) ?_
  refine AL.st rfl (st_store_any inf24 rfl rfl rfl rfl rfl rfl rfl rfl (by first | decide | (simp; done) | (simp; omega)) rfl) ?_
  refine AL.rp rfl rfl (rp_assign rfl rfl) ?_
  refine AL.rp rfl rfl (rp_assign rfl rfl) ?_
  refine AL.nil ?_
  try simp only [thenS, S.put, S.newObj, setL, V.cs, List.length_cons, List.length_nil, List.take_succ_cons, List.take_zero, List.drop_succ_cons, List.drop_zero, List.drop_nil, List.nil_append, List.cons_append, List.append_nil, Nat.zero_add, Nat.reduceAdd, List.map_cons, List.map_nil, List.set_cons_zero, List.set_cons_succ]
  refine AW.ret ?_
  exact ⟨[_, _, _], ⟨⟨2, 0, _, _, rfl, rfl, rfl, Try.underlying24, .inr ⟨rfl, _, _, _, _, inf24, rfl, rfl, rfl⟩⟩, rfl, rfl, trivial⟩, .inl ⟨h0, rfl⟩, by simp [tupOf, V.pure, V.has, V.hasL]⟩
theorem am_Pushed (m : Mach) : Fn Try.prog 20 [mV m] (fun v => v = .tup [mV (pushM m), .i (pushV m), .i (pushE m)]) := (am_Pushed0 m).wkS (resQ_wk push_none)
end Go.Proofs.Ytjbldphpkkmdpaa
