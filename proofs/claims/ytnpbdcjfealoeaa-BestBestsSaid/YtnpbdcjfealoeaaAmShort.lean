-- %hmode
/- ref.shortest: of the cheapest ways to an end, how few arcs. -/
import Derived.Test.YtnpbdcjfealoeaaAmBst
namespace Go.Proofs.Ytnpbdcjfealoeaa
open Go.RowKit
set_option linter.unusedSimpArgs false
set_option linter.unusedVariables false
set_option maxRecDepth 100000

/-- What is known of a machine whose costs are all within bounds. -/
structure BsG (sts : List St) (n : Nat) (I : Nat → Nat → Prop) (G : Nat → Nat → Nat → Prop) (FL : List Nat) : Prop where
 ini : ∀ {q d : Nat}, I q d ↔ q < n ∧ stF sts q = d ∧ d ≠ 1000000001
 edge : ∀ {p q w : Nat}, G p q w ↔ ∃ (x : St) (j : Nat) (a : Ar), sts[q]? = some x ∧ x.arcs[j]? = some a ∧ a.t = (p : Int) ∧ a.w = (w : Int)
 inn : ∀ p q w, G p q w → p < n ∧ q < n
 low : ∀ q, dst I G q < big → dst I G q ≤ 1000000000
 far : ∀ q, q < n → FL[q]? = some (tell (dst I G q))
theorem BsG.tell {sts : List St} {n : Nat} {I : Nat → Nat → Prop} {G : Nat → Nat → Nat → Prop} {FL : List Nat} (h : BsG sts n I G FL) (q : Nat) : (tell (dst I G q) = 1000000001 ∧ dst I G q = big) ∨ (tell (dst I G q) = dst I G q ∧ dst I G q ≤ 1000000000) := by
 unfold Go.Proofs.Ytnpbdcjfealoeaa.tell
 have h1 := (dst_spec (Init := I) (Edge := G) q).1
 by_cases e : dst I G q = big
 ·rw [if_pos e]; exact .inl ⟨rfl, e⟩
 ·rw [if_neg e]; exact .inr ⟨rfl, h.low q (by omega)⟩
theorem BsG.tri {sts : List St} {n : Nat} {I : Nat → Nat → Prop} {G : Nat → Nat → Nat → Prop} {FL : List Nat} (h : BsG sts n I G FL) {p q w : Nat} (e : G p q w) (hp : dst I G p < big) : dst I G q ≤ dst I G p + w :=
 (dst_spec (Init := I) (Edge := G) q).2.2 _ (.step p q _ w ((dst_spec (Init := I) (Edge := G) p).2.1 hp) e)
theorem BsG.tight {sts : List St} {n : Nat} {I : Nat → Nat → Prop} {G : Nat → Nat → Nat → Prop} {FL : List Nat} (h : BsG sts n I G FL) {p q w : Nat} : TE I G p q w ↔ w = 1 ∧ dst I G p < big ∧ dst I G q < big ∧ ∃ (x : St) (j : Nat) (a : Ar), sts[q]? = some x ∧ x.arcs[j]? = some a ∧ a.t = (p : Int) ∧ 0 ≤ a.w ∧ a.w + (dst I G p : Int) = (dst I G q : Int) := by
 constructor
 ·rintro ⟨h1, h2, h3, v, h4, h5⟩
  obtain ⟨x, j, a, h6, h7, h8, h9⟩ := h.edge.1 h4
  exact ⟨h1, h2, h3, x, j, a, h6, h7, h8, by omega, by omega⟩
 ·rintro ⟨h1, h2, h3, x, j, a, h6, h7, h8, h9, h10⟩
  obtain ⟨v, hv⟩ : ∃ v : Nat, a.w = v := ⟨a.w.toNat, by omega⟩
  exact ⟨h1, h2, h3, v, h.edge.2 ⟨x, j, a, h6, h7, h8, hv⟩, by omega⟩
open Classical in
noncomputable def sJ (I : Nat → Nat → Prop) (G : Nat → Nat → Nat → Prop) (sts : List St) (q : Nat) : Nat := if dst I G q < big ∧ stF sts q = dst I G q then 0 else big
set_option maxHeartbeats 1000000 in
theorem am_shortest (st : Int) (sts : List St) (n : Nat) (I : Nat → Nat → Prop) (G : Nat → Nat → Nat → Prop) (FL : List Nat) (hn : sts.length = n) (h0 : machE ⟨st, sts⟩ = 0) (hB : BsG sts n I G FL) : Fn Try.prog 71 [mV ⟨st, sts⟩, .d (intsN FL)] (fun v => v = .d (intsN (dstL (TI I G) (TE I G) n))) := by
 have hbig := big_eq
 obtain ⟨h60, h400, hst, hz⟩ := machE_zero h0
 simp only at h60 h400 hst hz
 have hal4 : ∀ x ∈ sts, x.arcs.length ≤ 400 := fun x hx => Nat.le_trans (arcN_mem sts x hx) h400
 rw [hn] at h60 hst hz
 obtain ⟨D, hD⟩ : ∃ D, dstL (TI I G) (TE I G) n = D := ⟨_, rfl⟩
 rw [hD]
 have hin : ∀ p q w, TE I G p q w → p < n ∧ q < n := by
  rintro p q w ⟨_, _, _, v, h, _⟩
  exact hB.inn p q v h
 refine Fn.intro (n := 128) ⟨Try.func71, rfl, rfl, rfl, rfl⟩ (by simp [V.pure, V.has, V.hasL]) (by simp) fun w0 out => ?_
 refine AW.seq ?_
 refine AW.region ?_
 refine AL.sm rfl (sm_box 2 rfl rfl rfl rfl rfl) ?_
 refine AL.rp rfl rfl (rp_assign rfl rfl) ?_
 refine AL.nil ?_
 try simp only [thenS, S.put, S.newObj, setL, V.cs, List.length_cons, List.length_nil, List.take_succ_cons, List.take_zero, List.drop_succ_cons, List.drop_zero, List.drop_nil, List.nil_append, List.cons_append, List.append_nil, Nat.zero_add, Nat.reduceAdd, List.map_cons, List.map_nil, List.set_cons_zero, List.set_cons_succ, enum]
 refine AW.seq ?_
 refine AW.region ?_
 refine AL.rp rfl rfl (rp_field_ref Try.underlying24 rfl rfl rfl inf22 (by decide) rfl) ?_
 refine AL.rd rfl rfl (rd_load_ref Try.underlying22 rfl rfl rfl rfl rfl rfl) ?_
 refine AL.rp rfl rfl (rp_len_map Try.underlying22 rfl rfl (by assumption)) ?_
 refine AL.rp rfl rfl (rp_assign rfl rfl) ?_
 refine AL.nil ?_
 try simp only [thenS, S.put]
 refine AW.seq ?_
 refine AW.region ?_
 refine AL.rp rfl rfl (rp_move rfl rfl) ?_
 refine AL.sm rfl (sm_make_map 16 V.i (0) Try.underlying29 inf3 rfl rfl rfl rfl rfl (by omega) (by decide) rfl rfl) ?_
 refine AL.rp rfl rfl (rp_assign rfl rfl) ?_
 refine AL.nil ?_
 try simp only [thenS, S.put, S.newObj, setL, V.cs, List.length_cons, List.length_nil, List.take_succ_cons, List.take_zero, List.drop_succ_cons, List.drop_zero, List.drop_nil, List.nil_append, List.cons_append, List.append_nil, Nat.zero_add, Nat.reduceAdd, List.map_cons, List.map_nil, List.set_cons_zero, List.set_cons_succ]
 refine AW.seq ?_
 refine AW.seq ?_
 refine AW.region ?_
 refine AL.rp rfl rfl (rp_assign rfl rfl) ?_
 refine AL.nil ?_
 try simp only [thenS, S.put]
 refine AW.block ?_
 refine AW.loop (fun s' => ∃ k : Nat, k ≤ n ∧ s' = ⟨128, [(1, .d (intsN FL)), (2, .ref 2 0), (5, .i n), (6, .own 16 1 n false), (7, .i k)], [(2, ⟨24, [.i st, .d (stsD sts)], false, 0⟩), (16, ⟨3, (bl (fun q => if q < k then sJ I G sts q else 0) n).map V.n, false, 1⟩)], []⟩) (fun s' => n - s'.nat 7) ⟨_, ?_, 0, by omega, rfl⟩ ?_
 ·have hz0 : (List.replicate n (0 : Int)).map V.i = (bl (fun q => if q < 0 then sJ I G sts q else 0) n).map V.n := by rw [show (bl (fun q => if q < 0 then sJ I G sts q else 0) n) = List.replicate n 0 by rw [bl_rep]; exact bl_congr fun q _ => by simp]; simp
  rw [hz0]
  exact (Less.of rfl (by repeat (first | exact trivial | refine ⟨⟨_, rfl, Wk.refl _⟩, ?_⟩ | refine ⟨⟨_, rfl, Wk.nil _ _⟩, ?_⟩ | refine ⟨⟨_, rfl, Wk.junk _⟩, ?_⟩)) (by repeat (first | exact trivial | refine ⟨rfl, ?_⟩)) rfl)
 rintro s' ⟨k, hk, rfl⟩
 by_cases hlt : k < n
 ·obtain ⟨x, hx⟩ := get_lt hn hlt
  have hxf := (hz x (List.mem_of_getElem? hx)).1
  have hkf := stF_of hx
  obtain ⟨xf, xa⟩ := x
  simp only [finOk, decide_eq_true_eq] at hxf
  obtain ⟨f, rfl⟩ : ∃ f : Nat, xf = f := ⟨xf.toNat, by omega⟩
  simp only [Int.toNat_natCast] at hkf
  have hkL : k < (bl (fun q => if q < k then sJ I G sts q else 0) n).length := by rw [bl_len]; exact hlt
  have hkL2 : k < ((bl (fun q => if q < k then sJ I G sts q else 0) n).set k big).length := by rw [List.length_set, bl_len]; exact hlt
  have hfar := hB.far k hlt
  have htl := hB.tell k
  obtain ⟨t, ht⟩ : ∃ t, tell (dst I G k) = t := ⟨_, rfl⟩
  rw [ht] at hfar htl
  clear ht
  have hnext : ∀ v : Nat, v = sJ I G sts k → (bl (fun q => if q < k then sJ I G sts q else 0) n).set k v = (bl (fun q => if q < (k + 1) then sJ I G sts q else 0) n) := fun v hv => bl_set hlt (by rw [if_pos (by omega), hv]) fun q _ hq => by
   by_cases e : q < k
   ·rw [if_pos e, if_pos (by omega)]
   ·rw [if_neg e, if_neg (by omega)]
  by_cases hi : t = 1000000001
  ·have hn1 := hnext big (by unfold sJ; rw [if_neg (by omega)])
   have htest : (t : Int) = 1000000001 := by omega
   refine AW.seq ?_
   refine AW.seq ?_
   refine AW.region ?_
   refine AL.rp rfl rfl (rp_move rfl rfl) ?_
   refine AL.rp rfl rfl (rp_move rfl rfl) ?_
   (refine AL.rp rfl rfl (rp_lssT rfl rfl rfl (by first | assumption | omega | (dsimp only; omega))) ?_)
   refine AL.nil ?_
   try simp only [thenS, S.put]
   refine AW.condT rfl ?_
   refine AW.skip ?_
   try simp only [thenS]
   refine AW.seq ?_
   refine AW.block ?_
   refine AW.seq ?_
   refine AW.region ?_
   refine AL.rp rfl rfl (rp_move rfl rfl) ?_
   refine AL.rp rfl rfl (rp_move rfl rfl) ?_
   refine AL.rp rfl rfl (rp_index_own Try.underlying29 inf3 rfl rfl rfl rfl (by first | assumption | omega)) ?_
   refine AL.st rfl (st_store_map2 (v := big) inf3 rfl rfl rfl rfl rfl rfl rfl rfl (by first | assumption | omega)) ?_
   refine AL.nil ?_
   try simp only [thenS, S.put, S.newObj, setL, V.cs, List.length_cons, List.length_nil, List.take_succ_cons, List.take_zero, List.drop_succ_cons, List.drop_zero, List.drop_nil, List.nil_append, List.cons_append, List.append_nil, Nat.zero_add, Nat.reduceAdd, List.map_cons, List.map_nil, List.set_cons_zero, List.set_cons_succ]
   refine AW.seq ?_
   refine AW.draw [(0, true), (1, true), (2, true), (3, true), (4, true), (5, true), (6, true), (7, true), (8, true), (9, true), (10, true), (11, true), (12, true), (13, true), (14, true), (15, true), (16, true), (17, true)] (fun i => !([] : List Nat).contains i) 18 (by kernel_rfl) (by kernel_rfl) rfl (by kernel_rfl) ?_
   refine AD1.rp rfl rfl rfl (fun _ _ h => h) (rp_move rfl rfl) ?_
   refine AD1.rp rfl rfl rfl (fun _ _ h => h) (rp_move rfl rfl) ?_
   refine AD1.rp rfl rfl rfl (fun _ _ h => h) (rp_index_map Try.underlying29 inf3 rfl rfl rfl rfl (by assumption)) ?_
   refine AD1.rd rfl rfl rfl (fun _ _ h => h) (rd_load_ad Try.underlying3 rfl rfl rfl rfl) ?_
   (refine AD1.rp rfl rfl rfl (fun _ _ h => h) (rp_neqF rfl rfl rfl (by first | assumption | omega | (dsimp only; omega))) ?_)
   refine AD1.rp rfl rfl rfl (fun _ _ h => h) (rp_move rfl rfl) ?_
   refine AD1.noV rfl rfl rfl rfl rfl (fun _ _ h => h) ?_
   refine AD1.noV rfl rfl rfl rfl rfl (fun _ _ h => h) ?_
   refine AD1.noV rfl rfl rfl rfl rfl (fun _ _ h => h) ?_
   refine AD1.noV rfl rfl rfl rfl rfl (fun _ _ h => h) ?_
   refine AD1.noV rfl rfl rfl rfl rfl (fun _ _ h => h) ?_
   refine AD1.noV rfl rfl rfl rfl rfl (fun _ _ h => h) ?_
   refine AD1.noV rfl rfl rfl rfl rfl (fun _ _ h => h) ?_
   refine AD1.noV rfl rfl rfl rfl rfl (fun _ _ h => h) ?_
   refine AD1.noV rfl rfl rfl rfl rfl (fun _ _ h => h) ?_
   refine AD1.noV rfl rfl rfl rfl rfl (fun _ _ h => h) ?_
   refine AD1.noV rfl rfl rfl rfl rfl (fun _ _ h => h) ?_
   refine AD1.rp rfl rfl rfl (fun _ _ h => h) (rp_pick rfl rfl rfl) ?_
   refine AD1.nil ?_
   try simp only [thenS, S.put]
   refine AW.condF rfl ?_
   refine AW.skip ?_
   try simp only [thenS]
   refine AW.region ?_
   refine AL.rp rfl rfl (rp_move rfl rfl) ?_
   refine AL.rp rfl rfl (rp_add rfl rfl rfl (by first | omega | (dsimp only; omega))) ?_
   refine AL.rp rfl rfl (rp_assign rfl rfl) ?_
   refine AL.nil ?_
   try simp only [thenS, S.put]
   refine ⟨_, ?_, ⟨k + 1, by omega, rfl⟩, ?_⟩
   ·rw [← hn1]; exact (Less.of rfl (by repeat (first | exact trivial | refine ⟨⟨_, rfl, Wk.refl _⟩, ?_⟩ | refine ⟨⟨_, rfl, Wk.nil _ _⟩, ?_⟩ | refine ⟨⟨_, rfl, Wk.junk _⟩, ?_⟩)) (by repeat (first | exact trivial | refine ⟨rfl, ?_⟩)) rfl)
   ·simp [S.nat, fnd]; omega
  ·have htest : ¬ (t : Int) = 1000000001 := by omega
   by_cases he : f = t
   ·have hn1 : ((bl (fun q => if q < k then sJ I G sts q else 0) n).set k big).set k 0 = (bl (fun q => if q < (k + 1) then sJ I G sts q else 0) n) := by rw [List.set_set]; exact hnext 0 (by unfold sJ; rw [if_pos (by omega)])
    have htest2 : (f : Int) = (t : Int) := by omega
    refine AW.seq ?_
    refine AW.seq ?_
    refine AW.region ?_
    refine AL.rp rfl rfl (rp_move rfl rfl) ?_
    refine AL.rp rfl rfl (rp_move rfl rfl) ?_
    (refine AL.rp rfl rfl (rp_lssT rfl rfl rfl (by first | assumption | omega | (dsimp only; omega))) ?_)
    refine AL.nil ?_
    try simp only [thenS, S.put]
    refine AW.condT rfl ?_
    refine AW.skip ?_
    try simp only [thenS]
    refine AW.seq ?_
    refine AW.block ?_
    refine AW.seq ?_
    refine AW.region ?_
    refine AL.rp rfl rfl (rp_move rfl rfl) ?_
    refine AL.rp rfl rfl (rp_move rfl rfl) ?_
    refine AL.rp rfl rfl (rp_index_own Try.underlying29 inf3 rfl rfl rfl rfl (by first | assumption | omega)) ?_
    refine AL.st rfl (st_store_map2 (v := big) inf3 rfl rfl rfl rfl rfl rfl rfl rfl (by first | assumption | omega)) ?_
    refine AL.nil ?_
    try simp only [thenS, S.put, S.newObj, setL, V.cs, List.length_cons, List.length_nil, List.take_succ_cons, List.take_zero, List.drop_succ_cons, List.drop_zero, List.drop_nil, List.nil_append, List.cons_append, List.append_nil, Nat.zero_add, Nat.reduceAdd, List.map_cons, List.map_nil, List.set_cons_zero, List.set_cons_succ]
    refine AW.seq ?_
    refine AW.draw [(0, true), (1, true), (2, true), (3, true), (4, true), (5, true), (6, true), (7, true), (8, true), (9, true), (10, true), (11, true), (12, true), (13, true), (14, true), (15, true), (16, true), (17, true)] (fun i => !([] : List Nat).contains i) 18 (by kernel_rfl) (by kernel_rfl) rfl (by kernel_rfl) ?_
    refine AD1.rp rfl rfl rfl (fun _ _ h => h) (rp_move rfl rfl) ?_
    refine AD1.rp rfl rfl rfl (fun _ _ h => h) (rp_move rfl rfl) ?_
    refine AD1.rp rfl rfl rfl (fun _ _ h => h) (rp_index_map Try.underlying29 inf3 rfl rfl rfl rfl (by assumption)) ?_
    refine AD1.rd rfl rfl rfl (fun _ _ h => h) (rd_load_ad Try.underlying3 rfl rfl rfl rfl) ?_
    (refine AD1.rp rfl rfl rfl (fun _ _ h => h) (rp_neqT rfl rfl rfl (by first | assumption | omega | (dsimp only; omega))) ?_)
    refine AD1.rp rfl rfl rfl (fun _ _ h => h) (rp_move rfl rfl) ?_
    refine AD1.rpy rfl rfl rfl rfl (fun _ _ h => h) (rp_field_ref Try.underlying24 rfl rfl rfl inf22 (by decide) rfl) ?_
    refine AD1.rdy rfl rfl rfl rfl (fun _ _ h => h) (rd_load_ref Try.underlying22 rfl rfl rfl rfl rfl rfl) ?_
    refine AD1.rpy rfl rfl rfl rfl (fun _ _ h => h) (rp_move rfl rfl) ?_
    refine AD1.rpy rfl rfl rfl rfl (fun _ _ h => h) (rp_index_map Try.underlying22 inf69 rfl rfl rfl rfl (by assumption)) ?_
    refine AD1.rpy rfl rfl rfl rfl (fun _ _ h => h) (rp_field_ad Try.underlying69 rfl rfl rfl inf3 (by decide) rfl) ?_
    refine AD1.rdy rfl rfl rfl rfl (fun _ _ h => h) (rd_load_ad Try.underlying3 rfl rfl rfl rfl) ?_
    refine AD1.rpy rfl rfl rfl rfl (fun _ _ h => h) (rp_move rfl rfl) ?_
    refine AD1.rpy rfl rfl rfl rfl (fun _ _ h => h) (rp_move rfl rfl) ?_
    refine AD1.rpy rfl rfl rfl rfl (fun _ _ h => h) (rp_index_map Try.underlying29 inf3 rfl rfl rfl rfl (by assumption)) ?_
    refine AD1.rdy rfl rfl rfl rfl (fun _ _ h => h) (rd_load_ad Try.underlying3 rfl rfl rfl rfl) ?_
    (refine AD1.rpy rfl rfl rfl rfl (fun _ _ h => h) (rp_eqlT rfl rfl rfl (by first | assumption | omega | (dsimp only; omega))) ?_)
    refine AD1.rp rfl rfl rfl (fun _ _ h => h) (rp_pick rfl rfl rfl) ?_
    refine AD1.nil ?_
    try simp only [thenS, S.put]
    refine AW.condT rfl ?_
    refine AW.region ?_
    refine AL.rp rfl rfl (rp_move rfl rfl) ?_
    refine AL.rp rfl rfl (rp_move rfl rfl) ?_
    refine AL.rp rfl rfl (rp_index_own Try.underlying29 inf3 rfl rfl rfl rfl (by first | assumption | omega)) ?_
    refine AL.st rfl (st_store_map2 (v := 0) inf3 rfl rfl rfl rfl rfl rfl rfl rfl (by first | assumption | omega)) ?_
    refine AL.nil ?_
    try simp only [thenS, S.put, S.newObj, setL, V.cs, List.length_cons, List.length_nil, List.take_succ_cons, List.take_zero, List.drop_succ_cons, List.drop_zero, List.drop_nil, List.nil_append, List.cons_append, List.append_nil, Nat.zero_add, Nat.reduceAdd, List.map_cons, List.map_nil, List.set_cons_zero, List.set_cons_succ]
    refine AW.region ?_
    refine AL.rp rfl rfl (rp_move rfl rfl) ?_
    refine AL.rp rfl rfl (rp_add rfl rfl rfl (by first | omega | (dsimp only; omega))) ?_
    refine AL.rp rfl rfl (rp_assign rfl rfl) ?_
    refine AL.nil ?_
    try simp only [thenS, S.put]
    refine ⟨_, ?_, ⟨k + 1, by omega, rfl⟩, ?_⟩
    ·rw [← hn1]; exact (Less.of rfl (by repeat (first | exact trivial | refine ⟨⟨_, rfl, Wk.refl _⟩, ?_⟩ | refine ⟨⟨_, rfl, Wk.nil _ _⟩, ?_⟩ | refine ⟨⟨_, rfl, Wk.junk _⟩, ?_⟩)) (by repeat (first | exact trivial | refine ⟨rfl, ?_⟩)) rfl)
    ·simp [S.nat, fnd]; omega
   ·have hn1 := hnext big (by unfold sJ; rw [if_neg (by omega)])
    have htest2 : ¬ (f : Int) = (t : Int) := by omega
    refine AW.seq ?_
    refine AW.seq ?_
    refine AW.region ?_
    refine AL.rp rfl rfl (rp_move rfl rfl) ?_
    refine AL.rp rfl rfl (rp_move rfl rfl) ?_
    (refine AL.rp rfl rfl (rp_lssT rfl rfl rfl (by first | assumption | omega | (dsimp only; omega))) ?_)
    refine AL.nil ?_
    try simp only [thenS, S.put]
    refine AW.condT rfl ?_
    refine AW.skip ?_
    try simp only [thenS]
    refine AW.seq ?_
    refine AW.block ?_
    refine AW.seq ?_
    refine AW.region ?_
    refine AL.rp rfl rfl (rp_move rfl rfl) ?_
    refine AL.rp rfl rfl (rp_move rfl rfl) ?_
    refine AL.rp rfl rfl (rp_index_own Try.underlying29 inf3 rfl rfl rfl rfl (by first | assumption | omega)) ?_
    refine AL.st rfl (st_store_map2 (v := big) inf3 rfl rfl rfl rfl rfl rfl rfl rfl (by first | assumption | omega)) ?_
    refine AL.nil ?_
    try simp only [thenS, S.put, S.newObj, setL, V.cs, List.length_cons, List.length_nil, List.take_succ_cons, List.take_zero, List.drop_succ_cons, List.drop_zero, List.drop_nil, List.nil_append, List.cons_append, List.append_nil, Nat.zero_add, Nat.reduceAdd, List.map_cons, List.map_nil, List.set_cons_zero, List.set_cons_succ]
    refine AW.seq ?_
    refine AW.draw [(0, true), (1, true), (2, true), (3, true), (4, true), (5, true), (6, true), (7, true), (8, true), (9, true), (10, true), (11, true), (12, true), (13, true), (14, true), (15, true), (16, true), (17, true)] (fun i => !([] : List Nat).contains i) 18 (by kernel_rfl) (by kernel_rfl) rfl (by kernel_rfl) ?_
    refine AD1.rp rfl rfl rfl (fun _ _ h => h) (rp_move rfl rfl) ?_
    refine AD1.rp rfl rfl rfl (fun _ _ h => h) (rp_move rfl rfl) ?_
    refine AD1.rp rfl rfl rfl (fun _ _ h => h) (rp_index_map Try.underlying29 inf3 rfl rfl rfl rfl (by assumption)) ?_
    refine AD1.rd rfl rfl rfl (fun _ _ h => h) (rd_load_ad Try.underlying3 rfl rfl rfl rfl) ?_
    (refine AD1.rp rfl rfl rfl (fun _ _ h => h) (rp_neqT rfl rfl rfl (by first | assumption | omega | (dsimp only; omega))) ?_)
    refine AD1.rp rfl rfl rfl (fun _ _ h => h) (rp_move rfl rfl) ?_
    refine AD1.rpy rfl rfl rfl rfl (fun _ _ h => h) (rp_field_ref Try.underlying24 rfl rfl rfl inf22 (by decide) rfl) ?_
    refine AD1.rdy rfl rfl rfl rfl (fun _ _ h => h) (rd_load_ref Try.underlying22 rfl rfl rfl rfl rfl rfl) ?_
    refine AD1.rpy rfl rfl rfl rfl (fun _ _ h => h) (rp_move rfl rfl) ?_
    refine AD1.rpy rfl rfl rfl rfl (fun _ _ h => h) (rp_index_map Try.underlying22 inf69 rfl rfl rfl rfl (by assumption)) ?_
    refine AD1.rpy rfl rfl rfl rfl (fun _ _ h => h) (rp_field_ad Try.underlying69 rfl rfl rfl inf3 (by decide) rfl) ?_
    refine AD1.rdy rfl rfl rfl rfl (fun _ _ h => h) (rd_load_ad Try.underlying3 rfl rfl rfl rfl) ?_
    refine AD1.rpy rfl rfl rfl rfl (fun _ _ h => h) (rp_move rfl rfl) ?_
    refine AD1.rpy rfl rfl rfl rfl (fun _ _ h => h) (rp_move rfl rfl) ?_
    refine AD1.rpy rfl rfl rfl rfl (fun _ _ h => h) (rp_index_map Try.underlying29 inf3 rfl rfl rfl rfl (by assumption)) ?_
    refine AD1.rdy rfl rfl rfl rfl (fun _ _ h => h) (rd_load_ad Try.underlying3 rfl rfl rfl rfl) ?_
    (refine AD1.rpy rfl rfl rfl rfl (fun _ _ h => h) (rp_eqlF rfl rfl rfl (by first | assumption | omega | (dsimp only; omega))) ?_)
    refine AD1.rp rfl rfl rfl (fun _ _ h => h) (rp_pick rfl rfl rfl) ?_
    refine AD1.nil ?_
    try simp only [thenS, S.put]
    refine AW.condF rfl ?_
    refine AW.skip ?_
    try simp only [thenS]
    refine AW.region ?_
    refine AL.rp rfl rfl (rp_move rfl rfl) ?_
    refine AL.rp rfl rfl (rp_add rfl rfl rfl (by first | omega | (dsimp only; omega))) ?_
    refine AL.rp rfl rfl (rp_assign rfl rfl) ?_
    refine AL.nil ?_
    try simp only [thenS, S.put]
    refine ⟨_, ?_, ⟨k + 1, by omega, rfl⟩, ?_⟩
    ·rw [← hn1]; exact (Less.of rfl (by repeat (first | exact trivial | refine ⟨⟨_, rfl, Wk.refl _⟩, ?_⟩ | refine ⟨⟨_, rfl, Wk.nil _ _⟩, ?_⟩ | refine ⟨⟨_, rfl, Wk.junk _⟩, ?_⟩)) (by repeat (first | exact trivial | refine ⟨rfl, ?_⟩)) rfl)
    ·simp [S.nat, fnd]; omega
 ·obtain rfl : k = n := by omega
  obtain ⟨n, rfl⟩ : ∃ n, n = k := ⟨_, rfl⟩
  have hini : ∀ {q d : Nat}, TI I G q d ↔ q < n ∧ d = 0 ∧ sJ I G sts q = 0 := by
   intro q d
   constructor
   ·rintro ⟨h1, h2, h3⟩
    obtain ⟨h4, h5, h6⟩ := hB.ini.1 h3
    exact ⟨h4, h1, by unfold sJ; rw [if_pos ⟨h2, h5⟩]⟩
   ·rintro ⟨h1, h2, h3⟩
    unfold sJ at h3
    split at h3
    ·rename_i h4
     exact ⟨h2, h4.1, hB.ini.2 ⟨h1, h4.2, by have := hB.low q h4.1; omega⟩⟩
    ·omega
  have hL : Snd (TI I G) (TE I G) n (bl (fun q => if q < n then sJ I G sts q else 0) n) := by
   refine ⟨bl_len _ _, fun q y h => ?_, fun q y h hb => ?_, fun q y d h hi => ?_⟩
   all_goals
    obtain ⟨hq, rfl⟩ := bl_inv h
   ·try simp only
    rw [if_pos hq]
    unfold sJ; split <;> omega
   ·try simp only at hb ⊢
    rw [if_pos hq] at hb ⊢
    have h0 : sJ I G sts q = 0 := by
     unfold sJ at hb ⊢
     by_cases e : dst I G q < big ∧ stF sts q = dst I G q
     ·rw [if_pos e]
     ·rw [if_neg e] at hb; omega
    rw [h0]
    exact .init q 0 (hini.2 ⟨hq, rfl, h0⟩)
   ·obtain ⟨_, h2, h3⟩ := hini.1 hi
    try simp only
    rw [if_pos hq, h3]
    omega
  obtain ⟨L, hLd⟩ : ∃ L, (bl (fun q => if q < n then sJ I G sts q else 0) n) = L := ⟨_, rfl⟩
  rw [hLd] at hL ⊢
  clear hini
  refine AW.seq ?_
  refine AW.seq ?_
  refine AW.region ?_
  refine AL.rp rfl rfl (rp_move rfl rfl) ?_
  refine AL.rp rfl rfl (rp_move rfl rfl) ?_
  (refine AL.rp rfl rfl (rp_lssF rfl rfl rfl (by first | assumption | omega | (dsimp only; omega))) ?_)
  refine AL.nil ?_
  try simp only [thenS, S.put]
  refine AW.condF rfl ?_
  refine AW.exit ?_
  try simp only [thenS, inBlockS, ↓reduceIte, Nat.reduceEqDiff]
  refine AW.seq ?_
  refine AW.seq ?_
  refine AW.region ?_
  refine AL.rp rfl rfl (rp_assign rfl rfl) ?_
  refine AL.nil ?_
  try simp only [thenS, S.put]
  refine AW.block ?_
  refine AW.loop (fun s' => ∃ (k : Nat) (L : List Nat), k ≤ n ∧ Snd (TI I G) (TE I G) n L ∧ (k ≤ stlN (TI I G) (TE I G) L n ∨ Lst (TI I G) (TE I G) n L) ∧ s' = ⟨128, [(1, .d (intsN FL)), (2, .ref 2 0), (5, .i n), (6, .own 16 1 n false), (8, .i k)], [(2, ⟨24, [.i st, .d (stsD sts)], false, 0⟩), (16, ⟨3, L.map V.n, false, 1⟩)], []⟩) (fun s' => n - s'.nat 8) ⟨_, ?_, 0, L, by omega, hL, .inl (by omega), rfl⟩ ?_
  ·exact (Less.of rfl (by repeat (first | exact trivial | refine ⟨⟨_, rfl, Wk.refl _⟩, ?_⟩ | refine ⟨⟨_, rfl, Wk.nil _ _⟩, ?_⟩ | refine ⟨⟨_, rfl, Wk.junk _⟩, ?_⟩)) (by repeat (first | exact trivial | refine ⟨rfl, ?_⟩)) rfl)
  rintro s' ⟨k, L0, hk, hL0, hc, rfl⟩
  by_cases hlt : k < n
  ·skip
   refine AW.seq ?_
   refine AW.seq ?_
   refine AW.region ?_
   refine AL.rp rfl rfl (rp_move rfl rfl) ?_
   refine AL.rp rfl rfl (rp_move rfl rfl) ?_
   (refine AL.rp rfl rfl (rp_lssT rfl rfl rfl (by first | assumption | omega | (dsimp only; omega))) ?_)
   refine AL.nil ?_
   try simp only [thenS, S.put]
   refine AW.condT rfl ?_
   refine AW.skip ?_
   try simp only [thenS]
   refine AW.seq ?_
   refine AW.block ?_
   refine AW.seq ?_
   refine AW.region ?_
   refine AL.rp rfl rfl (rp_assign rfl rfl) ?_
   refine AL.nil ?_
   try simp only [thenS, S.put]
   refine AW.block ?_
   refine AW.loop (fun s' => ∃ (q : Nat) (L : List Nat), q ≤ n ∧ Rd (TI I G) (TE I G) n k L0 (fun _ p _ => p < q) L ∧ s' = ⟨128, [(1, .d (intsN FL)), (2, .ref 2 0), (5, .i n), (6, .own 16 1 n false), (8, .i k), (9, .i q)], [(2, ⟨24, [.i st, .d (stsD sts)], false, 0⟩), (16, ⟨3, L.map V.n, false, 1⟩)], []⟩) (fun s' => n - s'.nat 9) ⟨_, ?_, 0, L0, by omega, (Rd.begin hL0 hc).skip (fun q p w x y h => absurd h (by omega)), rfl⟩ ?_
   ·exact (Less.of rfl (by repeat (first | exact trivial | refine ⟨⟨_, rfl, Wk.refl _⟩, ?_⟩ | refine ⟨⟨_, rfl, Wk.nil _ _⟩, ?_⟩ | refine ⟨⟨_, rfl, Wk.junk _⟩, ?_⟩)) (by repeat (first | exact trivial | refine ⟨rfl, ?_⟩)) rfl)
   rintro s' ⟨q, L, hq, hR, rfl⟩
   by_cases hlq : q < n
   ·obtain ⟨x, hx⟩ := get_lt hn hlq
    obtain ⟨la, hla⟩ : ∃ n, x.arcs.length = n := ⟨_, rfl⟩
    have hla' := hal4 x (List.mem_of_getElem? hx)
    rw [hla] at hla'
    have edge_q : ∀ {p w : Nat}, TE I G p q w → w = 1 ∧ ∃ (j : Nat) (a : Ar), x.arcs[j]? = some a ∧ a.t = (p : Int) ∧ a.w + (dst I G p : Int) = (dst I G q : Int) := by
     intro p w h
     obtain ⟨h1, h2, h3, x', j, a, h4, h5, h6, h7, h8⟩ := hB.tight.1 h
     rw [hx] at h4
     simp only [Option.some.injEq] at h4
     subst h4
     exact ⟨h1, j, a, h5, h6, h8⟩
    have hgar := hB.far q hlq
    have hgtl := hB.tell q
    obtain ⟨g, hg⟩ : ∃ t, tell (dst I G q) = t := ⟨_, rfl⟩
    rw [hg] at hgar hgtl
    clear hg
    refine AW.seq ?_
    refine AW.seq ?_
    refine AW.region ?_
    refine AL.rp rfl rfl (rp_move rfl rfl) ?_
    refine AL.rp rfl rfl (rp_move rfl rfl) ?_
    (refine AL.rp rfl rfl (rp_lssT rfl rfl rfl (by first | assumption | omega | (dsimp only; omega))) ?_)
    refine AL.nil ?_
    try simp only [thenS, S.put]
    refine AW.condT rfl ?_
    refine AW.skip ?_
    try simp only [thenS]
    refine AW.seq ?_
    refine AW.block ?_
    refine AW.seq ?_
    refine AW.region ?_
    refine AL.rp rfl rfl (rp_assign rfl rfl) ?_
    refine AL.nil ?_
    try simp only [thenS, S.put]
    refine AW.block ?_
    refine AW.loop (fun s' => ∃ (i : Nat) (L : List Nat), i ≤ la ∧ Rd (TI I G) (TE I G) n k L0 (fun p q' w => q' < q ∨ q' = q ∧ w = 1 ∧ ∃ (j : Nat) (a : Ar), j < i ∧ x.arcs[j]? = some a ∧ a.t = (p : Int) ∧ a.w + (dst I G p : Int) = (dst I G q : Int)) L ∧ s' = ⟨128, [(1, .d (intsN FL)), (2, .ref 2 0), (5, .i n), (6, .own 16 1 n false), (8, .i k), (9, .i q), (10, .i i)], [(2, ⟨24, [.i st, .d (stsD sts)], false, 0⟩), (16, ⟨3, L.map V.n, false, 1⟩)], []⟩) (fun s' => la - s'.nat 10) ⟨_, ?_, 0, L, by omega, hR.skip (fun q' p w a b h => ?_), rfl⟩ ?_
    ·exact (Less.of rfl (by repeat (first | exact trivial | refine ⟨⟨_, rfl, Wk.refl _⟩, ?_⟩ | refine ⟨⟨_, rfl, Wk.nil _ _⟩, ?_⟩ | refine ⟨⟨_, rfl, Wk.junk _⟩, ?_⟩)) (by repeat (first | exact trivial | refine ⟨rfl, ?_⟩)) rfl)
    ·rcases h with h | ⟨_, _, j, _, h, _⟩
     ·exact .inl h
     ·exact absurd h (by omega)
    rintro s' ⟨i, L, hi, hR, rfl⟩
    obtain ⟨c, hcp⟩ := get_lt hR.snd.len hlq
    have hcb := hR.snd.le q c hcp
    have hpL : q < L.length := by rw [hR.snd.len]; exact hlq
    by_cases hil : i < la
    ·obtain ⟨y, hy⟩ := get_lt hla hil
     have hyt := (hz x (List.mem_of_getElem? hx)).2 y (List.mem_of_getElem? hy)
     obtain ⟨yi, yo, yw, yt⟩ := y
     simp only [arOk, decide_eq_true_eq] at hyt
     obtain ⟨p, rfl⟩ : ∃ p : Nat, yt = p := ⟨yt.toNat, by omega⟩
     obtain ⟨w, rfl⟩ : ∃ w : Nat, yw = w := ⟨yw.toNat, by omega⟩
     have hpn : p < n := by omega
     obtain ⟨d, hd⟩ := get_lt hR.snd.len hpn
     have hdb := hR.snd.le p d hd
     have hfar := hB.far p hpn
     have hftl := hB.tell p
     obtain ⟨f, hf⟩ : ∃ t, tell (dst I G p) = t := ⟨_, rfl⟩
     rw [hf] at hfar hftl
     clear hf
     have hE1 : G p q w := hB.edge.2 ⟨x, i, _, hx, hy, rfl, rfl⟩
     have htri := fun h => hB.tri hE1 h
     have hskip : (dst I G p < big → dst I G q < big → w + dst I G p = dst I G q → ∀ x0 y0 : Nat, L0[p]? = some x0 → L[q]? = some y0 → y0 ≤ x0 + 1) → Rd (TI I G) (TE I G) n k L0 (fun p q' w => q' < q ∨ q' = q ∧ w = 1 ∧ ∃ (j : Nat) (a : Ar), j < i + 1 ∧ x.arcs[j]? = some a ∧ a.t = (p : Int) ∧ a.w + (dst I G p : Int) = (dst I G q : Int)) L := fun hle => hR.skip fun p' q' w' x0 y0 h => by
      rcases h with h | ⟨rfl, hw1, j, a, h2, h3, h4, h5⟩
      ·exact .inl (.inl h)
      ·by_cases e : j = i
       ·subst e
        rw [hy] at h3
        simp only [Option.some.injEq] at h3
        subst h3
        simp only at h4 h5
        obtain rfl : p = p' := by omega
        refine .inr fun h6 h7 h8 => ?_
        obtain ⟨rfl, h9, h10, _⟩ := h6
        exact hle h9 h10 (by omega) x0 y0 h7 h8
       ·exact .inl (.inr ⟨rfl, hw1, j, a, by omega, h3, h4, h5⟩)
     by_cases hfi : f = 1000000001
     ·have hR' := hskip fun h => by omega
      have htest : (f : Int) = 1000000001 := by omega
      refine AW.seq ?_
      refine AW.seq ?_
      refine AW.region ?_
      refine AL.rp rfl rfl (rp_move rfl rfl) ?_
      refine AL.rp rfl rfl (rp_field_ref Try.underlying24 rfl rfl rfl inf22 (by decide) rfl) ?_
      refine AL.rd rfl rfl (rd_load_ref Try.underlying22 rfl rfl rfl rfl rfl rfl) ?_
      refine AL.rp rfl rfl (rp_move rfl rfl) ?_
      refine AL.rp rfl rfl (rp_index_map Try.underlying22 inf69 rfl rfl rfl rfl (by assumption)) ?_
      refine AL.rp rfl rfl (rp_field_ad Try.underlying69 rfl rfl rfl inf67 (by decide) rfl) ?_
      refine AL.rd rfl rfl (rd_load_ad Try.underlying67 rfl rfl rfl rfl) ?_
      refine AL.rp rfl rfl (rp_len_map Try.underlying67 rfl rfl (by assumption)) ?_
      (refine AL.rp rfl rfl (rp_lssT rfl rfl rfl (by first | assumption | omega | (dsimp only; omega))) ?_)
      refine AL.nil ?_
      try simp only [thenS, S.put]
      refine AW.condT rfl ?_
      refine AW.skip ?_
      try simp only [thenS]
      refine AW.seq ?_
      refine AW.block ?_
      refine AW.seq ?_
      refine AW.region ?_
      refine AL.rp rfl rfl (rp_field_ref Try.underlying24 rfl rfl rfl inf22 (by decide) rfl) ?_
      refine AL.rd rfl rfl (rd_load_ref Try.underlying22 rfl rfl rfl rfl rfl rfl) ?_
      refine AL.rp rfl rfl (rp_move rfl rfl) ?_
      refine AL.rp rfl rfl (rp_index_map Try.underlying22 inf69 rfl rfl rfl rfl (by assumption)) ?_
      refine AL.rp rfl rfl (rp_field_ad Try.underlying69 rfl rfl rfl inf67 (by decide) rfl) ?_
      refine AL.rd rfl rfl (rd_load_ad Try.underlying67 rfl rfl rfl rfl) ?_
      refine AL.rp rfl rfl (rp_move rfl rfl) ?_
      refine AL.rp rfl rfl (rp_index_map Try.underlying67 inf79 rfl rfl rfl rfl (by assumption)) ?_
      refine AL.rd rfl rfl (rd_loads_ad Try.underlying79 rfl inf79 rfl rfl rfl rfl) ?_
      refine AL.sm rfl (sm_alloc (l := [.d (.p (.int .i64 0)), .d (.p (.int .i64 0)), .d (.p (.int .i64 0)), .d (.p (.int .i64 0))]) 11 inf79 rfl (by simp [S.clean, S.put, S.newObj, S.forget, V.has, V.hasL, junkIf, setL, V.cs, hasL_i, hasL_b, hasL_s, hasL_n, hasL_rep, hasL_flat, hasL_append, -List.map_set]) rfl rfl) ?_
      refine AL.st rfl (st_store_any inf79 rfl rfl rfl rfl rfl rfl rfl rfl (by first | decide | (simp; done) | (simp; omega)) rfl) ?_
      refine AL.nil ?_
      try simp only [thenS, S.put, S.newObj, setL, V.cs, List.length_cons, List.length_nil, List.take_succ_cons, List.take_zero, List.drop_succ_cons, List.drop_zero, List.drop_nil, List.nil_append, List.cons_append, List.append_nil, Nat.zero_add, Nat.reduceAdd, List.map_cons, List.map_nil, List.set_cons_zero, List.set_cons_succ]
      refine AW.seq ?_
      refine AW.draw [(0, true), (1, true), (2, true), (3, true), (4, true), (5, true), (6, true), (7, true), (8, true), (9, true), (10, true), (11, true), (12, true), (13, true), (14, true), (15, true), (16, true), (17, true), (18, true), (19, true), (20, true), (21, true), (22, true), (23, true), (24, true), (25, true), (26, true), (27, true), (28, true), (29, true), (30, true), (31, true), (32, true), (33, true), (34, true), (35, true), (36, true), (37, true), (38, true), (39, true), (40, true), (41, true)] (fun i => !([] : List Nat).contains i) 42 (by kernel_rfl) (by kernel_rfl) rfl (by kernel_rfl) ?_
      refine AD1.rp rfl rfl rfl (fun _ _ h => h) (rp_move rfl rfl) ?_
      refine AD1.rp rfl rfl rfl (fun _ _ h => h) (rp_field_ref Try.underlying79 rfl rfl rfl inf3 (by decide) rfl) ?_
      refine AD1.rd rfl rfl rfl (fun _ _ h => h) (rd_load_ref Try.underlying3 rfl rfl rfl rfl rfl rfl) ?_
      refine AD1.rp rfl rfl rfl (fun _ _ h => h) (rp_index_map Try.underlying29 inf3 rfl rfl rfl rfl (by assumption)) ?_
      refine AD1.rd rfl rfl rfl (fun _ _ h => h) (rd_load_ad Try.underlying3 rfl rfl rfl rfl) ?_
      (refine AD1.rp rfl rfl rfl (fun _ _ h => h) (rp_neqF rfl rfl rfl (by first | assumption | omega | (dsimp only; omega))) ?_)
      refine AD1.rp rfl rfl rfl (fun _ _ h => h) (rp_move rfl rfl) ?_
      refine AD1.noV rfl rfl rfl rfl rfl (fun _ _ h => h) ?_
      refine AD1.noV rfl rfl rfl rfl rfl (fun _ _ h => h) ?_
      refine AD1.noV rfl rfl rfl rfl rfl (fun _ _ h => h) ?_
      refine AD1.noV rfl rfl rfl rfl rfl (fun _ _ h => h) ?_
      refine AD1.noV rfl rfl rfl rfl rfl (fun _ _ h => h) ?_
      refine AD1.noV rfl rfl rfl rfl rfl (fun _ _ h => h) ?_
      refine AD1.noV rfl rfl rfl rfl rfl (fun _ _ h => h) ?_
      refine AD1.noV rfl rfl rfl rfl rfl (fun _ _ h => h) ?_
      refine AD1.noV rfl rfl rfl rfl rfl (fun _ _ h => h) ?_
      refine AD1.noV rfl rfl rfl rfl rfl (fun _ _ h => h) ?_
      refine AD1.noV rfl rfl rfl rfl rfl (fun _ _ h => h) ?_
      refine AD1.noV rfl rfl rfl rfl rfl (fun _ _ h => h) ?_
      refine AD1.noV rfl rfl rfl rfl rfl (fun _ _ h => h) ?_
      refine AD1.rp rfl rfl rfl (fun _ _ h => h) (rp_pick rfl rfl rfl) ?_
      refine AD1.rp rfl rfl rfl (fun _ _ h => h) (rp_move rfl rfl) ?_
      refine AD1.noV rfl rfl rfl rfl rfl (fun _ _ h => h) ?_
      refine AD1.noV rfl rfl rfl rfl rfl (fun _ _ h => h) ?_
      refine AD1.noV rfl rfl rfl rfl rfl (fun _ _ h => h) ?_
      refine AD1.noV rfl rfl rfl rfl rfl (fun _ _ h => h) ?_
      refine AD1.noV rfl rfl rfl rfl rfl (fun _ _ h => h) ?_
      refine AD1.noV rfl rfl rfl rfl rfl (fun _ _ h => h) ?_
      refine AD1.rp rfl rfl rfl (fun _ _ h => h) (rp_pick rfl rfl rfl) ?_
      refine AD1.rp rfl rfl rfl (fun _ _ h => h) (rp_move rfl rfl) ?_
      refine AD1.noV rfl rfl rfl rfl rfl (fun _ _ h => h) ?_
      refine AD1.noV rfl rfl rfl rfl rfl (fun _ _ h => h) ?_
      refine AD1.noV rfl rfl rfl rfl rfl (fun _ _ h => h) ?_
      refine AD1.noV rfl rfl rfl rfl rfl (fun _ _ h => h) ?_
      refine AD1.noV rfl rfl rfl rfl rfl (fun _ _ h => h) ?_
      refine AD1.noV rfl rfl rfl rfl rfl (fun _ _ h => h) ?_
      refine AD1.noV rfl rfl rfl rfl rfl (fun _ _ h => h) ?_
      refine AD1.noV rfl rfl rfl rfl rfl (fun _ _ h => h) ?_
      refine AD1.noV rfl rfl rfl rfl rfl (fun _ _ h => h) ?_
      refine AD1.noV rfl rfl rfl rfl rfl (fun _ _ h => h) ?_
      refine AD1.noV rfl rfl rfl rfl rfl (fun _ _ h => h) ?_
      refine AD1.rp rfl rfl rfl (fun _ _ h => h) (rp_pick rfl rfl rfl) ?_
      refine AD1.nil ?_
      try simp only [thenS, S.put]
      refine AW.condF rfl ?_
      refine AW.skip ?_
      try simp only [thenS]
      refine AW.region ?_
      refine AL.rp rfl rfl (rp_move rfl rfl) ?_
      refine AL.rp rfl rfl (rp_add rfl rfl rfl (by first | omega | (dsimp only; omega))) ?_
      refine AL.rp rfl rfl (rp_assign rfl rfl) ?_
      refine AL.nil ?_
      try simp only [thenS, S.put]
      refine ⟨_, ?_, ⟨i + 1, L, by omega, hR', rfl⟩, ?_⟩
      ·exact (Less.of rfl (by repeat (first | exact trivial | refine ⟨⟨_, rfl, Wk.refl _⟩, ?_⟩ | refine ⟨⟨_, rfl, Wk.nil _ _⟩, ?_⟩ | refine ⟨⟨_, rfl, Wk.junk _⟩, ?_⟩)) (by repeat (first | exact trivial | refine ⟨rfl, ?_⟩)) rfl)
      ·simp [S.nat, fnd]; omega
     ·have htest : ¬ (f : Int) = 1000000001 := by omega
      have hfd : f = dst I G p ∧ dst I G p ≤ 1000000000 := by omega
      have htri' := htri (by omega)
      have hgd : g = dst I G q ∧ dst I G q ≤ 1000000000 := by omega
      by_cases heq : w + f = g
      ·have hG1 : TE I G p q 1 := hB.tight.2 ⟨rfl, by omega, by omega, x, i, _, hx, hy, rfl, by simp only; omega, by simp only; omega⟩
       by_cases hnone : d = big
       ·have hR' := hskip fun _ _ _ x0 y0 h1 h2 => by
         have := hR.low p d x0 hd h1
         have := hR.snd.le q y0 h2
         omega
        have hf9 : f ≤ 1000000000 := by omega
        clear htri' hgd hfd htri hftl hgtl hskip
        refine AW.seq ?_
        refine AW.seq ?_
        refine AW.region ?_
        refine AL.rp rfl rfl (rp_move rfl rfl) ?_
        refine AL.rp rfl rfl (rp_field_ref Try.underlying24 rfl rfl rfl inf22 (by decide) rfl) ?_
        refine AL.rd rfl rfl (rd_load_ref Try.underlying22 rfl rfl rfl rfl rfl rfl) ?_
        refine AL.rp rfl rfl (rp_move rfl rfl) ?_
        refine AL.rp rfl rfl (rp_index_map Try.underlying22 inf69 rfl rfl rfl rfl (by assumption)) ?_
        refine AL.rp rfl rfl (rp_field_ad Try.underlying69 rfl rfl rfl inf67 (by decide) rfl) ?_
        refine AL.rd rfl rfl (rd_load_ad Try.underlying67 rfl rfl rfl rfl) ?_
        refine AL.rp rfl rfl (rp_len_map Try.underlying67 rfl rfl (by assumption)) ?_
        (refine AL.rp rfl rfl (rp_lssT rfl rfl rfl (by first | assumption | omega | (dsimp only; omega))) ?_)
        refine AL.nil ?_
        try simp only [thenS, S.put]
        refine AW.condT rfl ?_
        refine AW.skip ?_
        try simp only [thenS]
        refine AW.seq ?_
        refine AW.block ?_
        refine AW.seq ?_
        refine AW.region ?_
        refine AL.rp rfl rfl (rp_field_ref Try.underlying24 rfl rfl rfl inf22 (by decide) rfl) ?_
        refine AL.rd rfl rfl (rd_load_ref Try.underlying22 rfl rfl rfl rfl rfl rfl) ?_
        refine AL.rp rfl rfl (rp_move rfl rfl) ?_
        refine AL.rp rfl rfl (rp_index_map Try.underlying22 inf69 rfl rfl rfl rfl (by assumption)) ?_
        refine AL.rp rfl rfl (rp_field_ad Try.underlying69 rfl rfl rfl inf67 (by decide) rfl) ?_
        refine AL.rd rfl rfl (rd_load_ad Try.underlying67 rfl rfl rfl rfl) ?_
        refine AL.rp rfl rfl (rp_move rfl rfl) ?_
        refine AL.rp rfl rfl (rp_index_map Try.underlying67 inf79 rfl rfl rfl rfl (by assumption)) ?_
        refine AL.rd rfl rfl (rd_loads_ad Try.underlying79 rfl inf79 rfl rfl rfl rfl) ?_
        refine AL.sm rfl (sm_alloc (l := [.d (.p (.int .i64 0)), .d (.p (.int .i64 0)), .d (.p (.int .i64 0)), .d (.p (.int .i64 0))]) 11 inf79 rfl (by simp [S.clean, S.put, S.newObj, S.forget, V.has, V.hasL, junkIf, setL, V.cs, hasL_i, hasL_b, hasL_s, hasL_n, hasL_rep, hasL_flat, hasL_append, -List.map_set]) rfl rfl) ?_
        refine AL.st rfl (st_store_any inf79 rfl rfl rfl rfl rfl rfl rfl rfl (by first | decide | (simp; done) | (simp; omega)) rfl) ?_
        refine AL.nil ?_
        try simp only [thenS, S.put, S.newObj, setL, V.cs, List.length_cons, List.length_nil, List.take_succ_cons, List.take_zero, List.drop_succ_cons, List.drop_zero, List.drop_nil, List.nil_append, List.cons_append, List.append_nil, Nat.zero_add, Nat.reduceAdd, List.map_cons, List.map_nil, List.set_cons_zero, List.set_cons_succ]
        refine AW.seq ?_
        refine AW.draw [(0, true), (1, true), (2, true), (3, true), (4, true), (5, true), (6, true), (7, true), (8, true), (9, true), (10, true), (11, true), (12, true), (13, true), (14, true), (15, true), (16, true), (17, true), (18, true), (19, true), (20, true), (21, true), (22, true), (23, true), (24, true), (25, true), (26, true), (27, true), (28, true), (29, true), (30, true), (31, true), (32, true), (33, true), (34, true), (35, true), (36, true), (37, true), (38, true), (39, true), (40, true), (41, true)] (fun i => !([] : List Nat).contains i) 42 (by kernel_rfl) (by kernel_rfl) rfl (by kernel_rfl) ?_
        refine AD1.rp rfl rfl rfl (fun _ _ h => h) (rp_move rfl rfl) ?_
        refine AD1.rp rfl rfl rfl (fun _ _ h => h) (rp_field_ref Try.underlying79 rfl rfl rfl inf3 (by decide) rfl) ?_
        refine AD1.rd rfl rfl rfl (fun _ _ h => h) (rd_load_ref Try.underlying3 rfl rfl rfl rfl rfl rfl) ?_
        refine AD1.rp rfl rfl rfl (fun _ _ h => h) (rp_index_map Try.underlying29 inf3 rfl rfl rfl rfl (by assumption)) ?_
        refine AD1.rd rfl rfl rfl (fun _ _ h => h) (rd_load_ad Try.underlying3 rfl rfl rfl rfl) ?_
        (refine AD1.rp rfl rfl rfl (fun _ _ h => h) (rp_neqT rfl rfl rfl (by first | assumption | omega | (dsimp only; omega))) ?_)
        refine AD1.rp rfl rfl rfl (fun _ _ h => h) (rp_move rfl rfl) ?_
        refine AD1.rpy rfl rfl rfl rfl (fun _ _ h => h) (rp_field_ref Try.underlying79 rfl rfl rfl inf3 (by decide) rfl) ?_
        refine AD1.rdy rfl rfl rfl rfl (fun _ _ h => h) (rd_load_ref Try.underlying3 rfl rfl rfl rfl rfl rfl) ?_
        refine AD1.rpy rfl rfl rfl rfl (fun _ _ h => h) (rp_move rfl rfl) ?_
        refine AD1.rpy rfl rfl rfl rfl (fun _ _ h => h) (rp_field_ref Try.underlying79 rfl rfl rfl inf3 (by decide) rfl) ?_
        refine AD1.rdy rfl rfl rfl rfl (fun _ _ h => h) (rd_load_ref Try.underlying3 rfl rfl rfl rfl rfl rfl) ?_
        refine AD1.rpy rfl rfl rfl rfl (fun _ _ h => h) (rp_index_map Try.underlying29 inf3 rfl rfl rfl rfl (by assumption)) ?_
        refine AD1.rdy rfl rfl rfl rfl (fun _ _ h => h) (rd_load_ad Try.underlying3 rfl rfl rfl rfl) ?_
        (refine AD1.rpy rfl rfl rfl rfl (fun _ _ h => h) (rp_add rfl rfl rfl (by first | omega | (dsimp only; omega))) ?_)
        refine AD1.rpy rfl rfl rfl rfl (fun _ _ h => h) (rp_move rfl rfl) ?_
        refine AD1.rpy rfl rfl rfl rfl (fun _ _ h => h) (rp_move rfl rfl) ?_
        refine AD1.rpy rfl rfl rfl rfl (fun _ _ h => h) (rp_index_map Try.underlying29 inf3 rfl rfl rfl rfl (by assumption)) ?_
        refine AD1.rdy rfl rfl rfl rfl (fun _ _ h => h) (rd_load_ad Try.underlying3 rfl rfl rfl rfl) ?_
        (refine AD1.rpy rfl rfl rfl rfl (fun _ _ h => h) (rp_eqlT rfl rfl rfl (by first | assumption | omega | (dsimp only; omega))) ?_)
        refine AD1.rp rfl rfl rfl (fun _ _ h => h) (rp_pick rfl rfl rfl) ?_
        refine AD1.rp rfl rfl rfl (fun _ _ h => h) (rp_move rfl rfl) ?_
        refine AD1.rpy rfl rfl rfl rfl (fun _ _ h => h) (rp_move rfl rfl) ?_
        refine AD1.rpy rfl rfl rfl rfl (fun _ _ h => h) (rp_field_ref Try.underlying79 rfl rfl rfl inf3 (by decide) rfl) ?_
        refine AD1.rdy rfl rfl rfl rfl (fun _ _ h => h) (rd_load_ref Try.underlying3 rfl rfl rfl rfl rfl rfl) ?_
        refine AD1.rpy rfl rfl rfl rfl (fun _ _ h => h) (rp_index_own Try.underlying29 inf3 rfl rfl rfl rfl (by first | assumption | omega)) ?_
        refine AD1.rdy rfl rfl rfl rfl (fun _ _ h => h) (rd_load_map Try.underlying3 rfl rfl rfl rfl rfl rfl (by assumption)) ?_
        (refine AD1.rpy rfl rfl rfl rfl (fun _ _ h => h) (rp_neqF rfl rfl rfl (by first | assumption | omega | (dsimp only; omega))) ?_)
        refine AD1.rp rfl rfl rfl (fun _ _ h => h) (rp_pick rfl rfl rfl) ?_
        refine AD1.rp rfl rfl rfl (fun _ _ h => h) (rp_move rfl rfl) ?_
        refine AD1.noV rfl rfl rfl rfl rfl (fun _ _ h => h) ?_
        refine AD1.noV rfl rfl rfl rfl rfl (fun _ _ h => h) ?_
        refine AD1.noV rfl rfl rfl rfl rfl (fun _ _ h => h) ?_
        refine AD1.noV rfl rfl rfl rfl rfl (fun _ _ h => h) ?_
        refine AD1.noV rfl rfl rfl rfl rfl (fun _ _ h => h) ?_
        refine AD1.noV rfl rfl rfl rfl rfl (fun _ _ h => h) ?_
        refine AD1.noV rfl rfl rfl rfl rfl (fun _ _ h => h) ?_
        refine AD1.noV rfl rfl rfl rfl rfl (fun _ _ h => h) ?_
        refine AD1.noV rfl rfl rfl rfl rfl (fun _ _ h => h) ?_
        refine AD1.noV rfl rfl rfl rfl rfl (fun _ _ h => h) ?_
        refine AD1.noV rfl rfl rfl rfl rfl (fun _ _ h => h) ?_
        refine AD1.rp rfl rfl rfl (fun _ _ h => h) (rp_pick rfl rfl rfl) ?_
        refine AD1.nil ?_
        try simp only [thenS, S.put]
        refine AW.condF rfl ?_
        refine AW.skip ?_
        try simp only [thenS]
        refine AW.region ?_
        refine AL.rp rfl rfl (rp_move rfl rfl) ?_
        refine AL.rp rfl rfl (rp_add rfl rfl rfl (by first | omega | (dsimp only; omega))) ?_
        refine AL.rp rfl rfl (rp_assign rfl rfl) ?_
        refine AL.nil ?_
        try simp only [thenS, S.put]
        refine ⟨_, ?_, ⟨i + 1, L, by omega, hR', rfl⟩, ?_⟩
        ·exact (Less.of rfl (by repeat (first | exact trivial | refine ⟨⟨_, rfl, Wk.refl _⟩, ?_⟩ | refine ⟨⟨_, rfl, Wk.nil _ _⟩, ?_⟩ | refine ⟨⟨_, rfl, Wk.junk _⟩, ?_⟩)) (by repeat (first | exact trivial | refine ⟨rfl, ?_⟩)) rfl)
        ·simp [S.nat, fnd]; omega
       ·by_cases hless : d + 1 < c
        ·have hR' := hR.set hG1 hd (by omega) (fun y0 h => by rw [hcp] at h; simp only [Option.some.injEq] at h; omega) hlq (D' := fun p q' w => q' < q ∨ q' = q ∧ w = 1 ∧ ∃ (j : Nat) (a : Ar), j < i + 1 ∧ x.arcs[j]? = some a ∧ a.t = (p : Int) ∧ a.w + (dst I G p : Int) = (dst I G q : Int)) (fun p' q' w' h => by
          rcases h with h | ⟨h1, h1', j, a, h2, h3, h4, h5⟩
          ·exact .inl (.inl h)
          ·by_cases e : j = i
           ·subst e
            rw [hy] at h3
            simp only [Option.some.injEq] at h3
            subst h3
            simp only at h4
            exact .inr ⟨by omega, h1, h1'⟩
           ·exact .inl (.inr ⟨h1, h1', j, a, by omega, h3, h4, h5⟩))
         have hf9 : f ≤ 1000000000 := by omega
         clear htri' hgd hfd htri hftl hgtl hskip
         refine AW.seq ?_
         refine AW.seq ?_
         refine AW.region ?_
         refine AL.rp rfl rfl (rp_move rfl rfl) ?_
         refine AL.rp rfl rfl (rp_field_ref Try.underlying24 rfl rfl rfl inf22 (by decide) rfl) ?_
         refine AL.rd rfl rfl (rd_load_ref Try.underlying22 rfl rfl rfl rfl rfl rfl) ?_
         refine AL.rp rfl rfl (rp_move rfl rfl) ?_
         refine AL.rp rfl rfl (rp_index_map Try.underlying22 inf69 rfl rfl rfl rfl (by assumption)) ?_
         refine AL.rp rfl rfl (rp_field_ad Try.underlying69 rfl rfl rfl inf67 (by decide) rfl) ?_
         refine AL.rd rfl rfl (rd_load_ad Try.underlying67 rfl rfl rfl rfl) ?_
         refine AL.rp rfl rfl (rp_len_map Try.underlying67 rfl rfl (by assumption)) ?_
         (refine AL.rp rfl rfl (rp_lssT rfl rfl rfl (by first | assumption | omega | (dsimp only; omega))) ?_)
         refine AL.nil ?_
         try simp only [thenS, S.put]
         refine AW.condT rfl ?_
         refine AW.skip ?_
         try simp only [thenS]
         refine AW.seq ?_
         refine AW.block ?_
         refine AW.seq ?_
         refine AW.region ?_
         refine AL.rp rfl rfl (rp_field_ref Try.underlying24 rfl rfl rfl inf22 (by decide) rfl) ?_
         refine AL.rd rfl rfl (rd_load_ref Try.underlying22 rfl rfl rfl rfl rfl rfl) ?_
         refine AL.rp rfl rfl (rp_move rfl rfl) ?_
         refine AL.rp rfl rfl (rp_index_map Try.underlying22 inf69 rfl rfl rfl rfl (by assumption)) ?_
         refine AL.rp rfl rfl (rp_field_ad Try.underlying69 rfl rfl rfl inf67 (by decide) rfl) ?_
         refine AL.rd rfl rfl (rd_load_ad Try.underlying67 rfl rfl rfl rfl) ?_
         refine AL.rp rfl rfl (rp_move rfl rfl) ?_
         refine AL.rp rfl rfl (rp_index_map Try.underlying67 inf79 rfl rfl rfl rfl (by assumption)) ?_
         refine AL.rd rfl rfl (rd_loads_ad Try.underlying79 rfl inf79 rfl rfl rfl rfl) ?_
         refine AL.sm rfl (sm_alloc (l := [.d (.p (.int .i64 0)), .d (.p (.int .i64 0)), .d (.p (.int .i64 0)), .d (.p (.int .i64 0))]) 11 inf79 rfl (by simp [S.clean, S.put, S.newObj, S.forget, V.has, V.hasL, junkIf, setL, V.cs, hasL_i, hasL_b, hasL_s, hasL_n, hasL_rep, hasL_flat, hasL_append, -List.map_set]) rfl rfl) ?_
         refine AL.st rfl (st_store_any inf79 rfl rfl rfl rfl rfl rfl rfl rfl (by first | decide | (simp; done) | (simp; omega)) rfl) ?_
         refine AL.nil ?_
         try simp only [thenS, S.put, S.newObj, setL, V.cs, List.length_cons, List.length_nil, List.take_succ_cons, List.take_zero, List.drop_succ_cons, List.drop_zero, List.drop_nil, List.nil_append, List.cons_append, List.append_nil, Nat.zero_add, Nat.reduceAdd, List.map_cons, List.map_nil, List.set_cons_zero, List.set_cons_succ]
         refine AW.seq ?_
         refine AW.draw [(0, true), (1, true), (2, true), (3, true), (4, true), (5, true), (6, true), (7, true), (8, true), (9, true), (10, true), (11, true), (12, true), (13, true), (14, true), (15, true), (16, true), (17, true), (18, true), (19, true), (20, true), (21, true), (22, true), (23, true), (24, true), (25, true), (26, true), (27, true), (28, true), (29, true), (30, true), (31, true), (32, true), (33, true), (34, true), (35, true), (36, true), (37, true), (38, true), (39, true), (40, true), (41, true)] (fun i => !([] : List Nat).contains i) 42 (by kernel_rfl) (by kernel_rfl) rfl (by kernel_rfl) ?_
         refine AD1.rp rfl rfl rfl (fun _ _ h => h) (rp_move rfl rfl) ?_
         refine AD1.rp rfl rfl rfl (fun _ _ h => h) (rp_field_ref Try.underlying79 rfl rfl rfl inf3 (by decide) rfl) ?_
         refine AD1.rd rfl rfl rfl (fun _ _ h => h) (rd_load_ref Try.underlying3 rfl rfl rfl rfl rfl rfl) ?_
         refine AD1.rp rfl rfl rfl (fun _ _ h => h) (rp_index_map Try.underlying29 inf3 rfl rfl rfl rfl (by assumption)) ?_
         refine AD1.rd rfl rfl rfl (fun _ _ h => h) (rd_load_ad Try.underlying3 rfl rfl rfl rfl) ?_
         (refine AD1.rp rfl rfl rfl (fun _ _ h => h) (rp_neqT rfl rfl rfl (by first | assumption | omega | (dsimp only; omega))) ?_)
         refine AD1.rp rfl rfl rfl (fun _ _ h => h) (rp_move rfl rfl) ?_
         refine AD1.rpy rfl rfl rfl rfl (fun _ _ h => h) (rp_field_ref Try.underlying79 rfl rfl rfl inf3 (by decide) rfl) ?_
         refine AD1.rdy rfl rfl rfl rfl (fun _ _ h => h) (rd_load_ref Try.underlying3 rfl rfl rfl rfl rfl rfl) ?_
         refine AD1.rpy rfl rfl rfl rfl (fun _ _ h => h) (rp_move rfl rfl) ?_
         refine AD1.rpy rfl rfl rfl rfl (fun _ _ h => h) (rp_field_ref Try.underlying79 rfl rfl rfl inf3 (by decide) rfl) ?_
         refine AD1.rdy rfl rfl rfl rfl (fun _ _ h => h) (rd_load_ref Try.underlying3 rfl rfl rfl rfl rfl rfl) ?_
         refine AD1.rpy rfl rfl rfl rfl (fun _ _ h => h) (rp_index_map Try.underlying29 inf3 rfl rfl rfl rfl (by assumption)) ?_
         refine AD1.rdy rfl rfl rfl rfl (fun _ _ h => h) (rd_load_ad Try.underlying3 rfl rfl rfl rfl) ?_
         (refine AD1.rpy rfl rfl rfl rfl (fun _ _ h => h) (rp_add rfl rfl rfl (by first | omega | (dsimp only; omega))) ?_)
         refine AD1.rpy rfl rfl rfl rfl (fun _ _ h => h) (rp_move rfl rfl) ?_
         refine AD1.rpy rfl rfl rfl rfl (fun _ _ h => h) (rp_move rfl rfl) ?_
         refine AD1.rpy rfl rfl rfl rfl (fun _ _ h => h) (rp_index_map Try.underlying29 inf3 rfl rfl rfl rfl (by assumption)) ?_
         refine AD1.rdy rfl rfl rfl rfl (fun _ _ h => h) (rd_load_ad Try.underlying3 rfl rfl rfl rfl) ?_
         (refine AD1.rpy rfl rfl rfl rfl (fun _ _ h => h) (rp_eqlT rfl rfl rfl (by first | assumption | omega | (dsimp only; omega))) ?_)
         refine AD1.rp rfl rfl rfl (fun _ _ h => h) (rp_pick rfl rfl rfl) ?_
         refine AD1.rp rfl rfl rfl (fun _ _ h => h) (rp_move rfl rfl) ?_
         refine AD1.rpy rfl rfl rfl rfl (fun _ _ h => h) (rp_move rfl rfl) ?_
         refine AD1.rpy rfl rfl rfl rfl (fun _ _ h => h) (rp_field_ref Try.underlying79 rfl rfl rfl inf3 (by decide) rfl) ?_
         refine AD1.rdy rfl rfl rfl rfl (fun _ _ h => h) (rd_load_ref Try.underlying3 rfl rfl rfl rfl rfl rfl) ?_
         refine AD1.rpy rfl rfl rfl rfl (fun _ _ h => h) (rp_index_own Try.underlying29 inf3 rfl rfl rfl rfl (by first | assumption | omega)) ?_
         refine AD1.rdy rfl rfl rfl rfl (fun _ _ h => h) (rd_load_map Try.underlying3 rfl rfl rfl rfl rfl rfl (by assumption)) ?_
         (refine AD1.rpy rfl rfl rfl rfl (fun _ _ h => h) (rp_neqT rfl rfl rfl (by first | assumption | omega | (dsimp only; omega))) ?_)
         refine AD1.rp rfl rfl rfl (fun _ _ h => h) (rp_pick rfl rfl rfl) ?_
         refine AD1.rp rfl rfl rfl (fun _ _ h => h) (rp_move rfl rfl) ?_
         refine AD1.rpy rfl rfl rfl rfl (fun _ _ h => h) (rp_move rfl rfl) ?_
         refine AD1.rpy rfl rfl rfl rfl (fun _ _ h => h) (rp_field_ref Try.underlying79 rfl rfl rfl inf3 (by decide) rfl) ?_
         refine AD1.rdy rfl rfl rfl rfl (fun _ _ h => h) (rd_load_ref Try.underlying3 rfl rfl rfl rfl rfl rfl) ?_
         refine AD1.rpy rfl rfl rfl rfl (fun _ _ h => h) (rp_index_own Try.underlying29 inf3 rfl rfl rfl rfl (by first | assumption | omega)) ?_
         refine AD1.rdy rfl rfl rfl rfl (fun _ _ h => h) (rd_load_map Try.underlying3 rfl rfl rfl rfl rfl rfl (by assumption)) ?_
         (refine AD1.rpy rfl rfl rfl rfl (fun _ _ h => h) (rp_add rfl rfl rfl (by first | omega | (dsimp only; omega))) ?_)
         refine AD1.rpy rfl rfl rfl rfl (fun _ _ h => h) (rp_move rfl rfl) ?_
         refine AD1.rpy rfl rfl rfl rfl (fun _ _ h => h) (rp_move rfl rfl) ?_
         refine AD1.rpy rfl rfl rfl rfl (fun _ _ h => h) (rp_index_own Try.underlying29 inf3 rfl rfl rfl rfl (by first | assumption | omega)) ?_
         refine AD1.rdy rfl rfl rfl rfl (fun _ _ h => h) (rd_load_map Try.underlying3 rfl rfl rfl rfl rfl rfl (by assumption)) ?_
         (refine AD1.rpy rfl rfl rfl rfl (fun _ _ h => h) (rp_lssT rfl rfl rfl (by first | assumption | omega | (dsimp only; omega))) ?_)
         refine AD1.rp rfl rfl rfl (fun _ _ h => h) (rp_pick rfl rfl rfl) ?_
         refine AD1.nil ?_
         try simp only [thenS, S.put]
         refine AW.condT rfl ?_
         refine AW.region ?_
         refine AL.rp rfl rfl (rp_move rfl rfl) ?_
         refine AL.rp rfl rfl (rp_move rfl rfl) ?_
         refine AL.rp rfl rfl (rp_move rfl rfl) ?_
         refine AL.rp rfl rfl (rp_field_ref Try.underlying79 rfl rfl rfl inf3 (by decide) rfl) ?_
         refine AL.rd rfl rfl (rd_load_ref Try.underlying3 rfl rfl rfl rfl rfl rfl) ?_
         refine AL.rp rfl rfl (rp_index_own Try.underlying29 inf3 rfl rfl rfl rfl (by first | assumption | omega)) ?_
         refine AL.rd rfl rfl (rd_load_map Try.underlying3 rfl rfl rfl rfl rfl rfl (by assumption)) ?_
         refine AL.rp rfl rfl (rp_add rfl rfl rfl (by first | omega | (dsimp only; omega))) ?_
         refine AL.rp rfl rfl (rp_index_own Try.underlying29 inf3 rfl rfl rfl rfl (by first | assumption | omega)) ?_
         refine AL.st rfl (st_store_map2 (v := d + 1) inf3 rfl rfl rfl rfl rfl rfl rfl rfl (by first | assumption | omega)) ?_
         refine AL.nil ?_
         try simp only [thenS, S.put, S.newObj, setL, V.cs, List.length_cons, List.length_nil, List.take_succ_cons, List.take_zero, List.drop_succ_cons, List.drop_zero, List.drop_nil, List.nil_append, List.cons_append, List.append_nil, Nat.zero_add, Nat.reduceAdd, List.map_cons, List.map_nil, List.set_cons_zero, List.set_cons_succ]
         refine AW.region ?_
         refine AL.rp rfl rfl (rp_move rfl rfl) ?_
         refine AL.rp rfl rfl (rp_add rfl rfl rfl (by first | omega | (dsimp only; omega))) ?_
         refine AL.rp rfl rfl (rp_assign rfl rfl) ?_
         refine AL.nil ?_
         try simp only [thenS, S.put]
         refine ⟨_, ?_, ⟨i + 1, L.set q (d + 1), by omega, hR', rfl⟩, ?_⟩
         ·exact (Less.of rfl (by repeat (first | exact trivial | refine ⟨⟨_, rfl, Wk.refl _⟩, ?_⟩ | refine ⟨⟨_, rfl, Wk.nil _ _⟩, ?_⟩ | refine ⟨⟨_, rfl, Wk.junk _⟩, ?_⟩)) (by repeat (first | exact trivial | refine ⟨rfl, ?_⟩)) rfl)
         ·simp [S.nat, fnd]; omega
        ·have hR' := hskip fun _ _ _ x0 y0 h1 h2 => by
          rw [hcp] at h2
          simp only [Option.some.injEq] at h2
          have := hR.low p d x0 hd h1
          omega
         have hf9 : f ≤ 1000000000 := by omega
         clear htri' hgd hfd htri hftl hgtl hskip
         refine AW.seq ?_
         refine AW.seq ?_
         refine AW.region ?_
         refine AL.rp rfl rfl (rp_move rfl rfl) ?_
         refine AL.rp rfl rfl (rp_field_ref Try.underlying24 rfl rfl rfl inf22 (by decide) rfl) ?_
         refine AL.rd rfl rfl (rd_load_ref Try.underlying22 rfl rfl rfl rfl rfl rfl) ?_
         refine AL.rp rfl rfl (rp_move rfl rfl) ?_
         refine AL.rp rfl rfl (rp_index_map Try.underlying22 inf69 rfl rfl rfl rfl (by assumption)) ?_
         refine AL.rp rfl rfl (rp_field_ad Try.underlying69 rfl rfl rfl inf67 (by decide) rfl) ?_
         refine AL.rd rfl rfl (rd_load_ad Try.underlying67 rfl rfl rfl rfl) ?_
         refine AL.rp rfl rfl (rp_len_map Try.underlying67 rfl rfl (by assumption)) ?_
         (refine AL.rp rfl rfl (rp_lssT rfl rfl rfl (by first | assumption | omega | (dsimp only; omega))) ?_)
         refine AL.nil ?_
         try simp only [thenS, S.put]
         refine AW.condT rfl ?_
         refine AW.skip ?_
         try simp only [thenS]
         refine AW.seq ?_
         refine AW.block ?_
         refine AW.seq ?_
         refine AW.region ?_
         refine AL.rp rfl rfl (rp_field_ref Try.underlying24 rfl rfl rfl inf22 (by decide) rfl) ?_
         refine AL.rd rfl rfl (rd_load_ref Try.underlying22 rfl rfl rfl rfl rfl rfl) ?_
         refine AL.rp rfl rfl (rp_move rfl rfl) ?_
         refine AL.rp rfl rfl (rp_index_map Try.underlying22 inf69 rfl rfl rfl rfl (by assumption)) ?_
         refine AL.rp rfl rfl (rp_field_ad Try.underlying69 rfl rfl rfl inf67 (by decide) rfl) ?_
         refine AL.rd rfl rfl (rd_load_ad Try.underlying67 rfl rfl rfl rfl) ?_
         refine AL.rp rfl rfl (rp_move rfl rfl) ?_
         refine AL.rp rfl rfl (rp_index_map Try.underlying67 inf79 rfl rfl rfl rfl (by assumption)) ?_
         refine AL.rd rfl rfl (rd_loads_ad Try.underlying79 rfl inf79 rfl rfl rfl rfl) ?_
         refine AL.sm rfl (sm_alloc (l := [.d (.p (.int .i64 0)), .d (.p (.int .i64 0)), .d (.p (.int .i64 0)), .d (.p (.int .i64 0))]) 11 inf79 rfl (by simp [S.clean, S.put, S.newObj, S.forget, V.has, V.hasL, junkIf, setL, V.cs, hasL_i, hasL_b, hasL_s, hasL_n, hasL_rep, hasL_flat, hasL_append, -List.map_set]) rfl rfl) ?_
         refine AL.st rfl (st_store_any inf79 rfl rfl rfl rfl rfl rfl rfl rfl (by first | decide | (simp; done) | (simp; omega)) rfl) ?_
         refine AL.nil ?_
         try simp only [thenS, S.put, S.newObj, setL, V.cs, List.length_cons, List.length_nil, List.take_succ_cons, List.take_zero, List.drop_succ_cons, List.drop_zero, List.drop_nil, List.nil_append, List.cons_append, List.append_nil, Nat.zero_add, Nat.reduceAdd, List.map_cons, List.map_nil, List.set_cons_zero, List.set_cons_succ]
         refine AW.seq ?_
         refine AW.draw [(0, true), (1, true), (2, true), (3, true), (4, true), (5, true), (6, true), (7, true), (8, true), (9, true), (10, true), (11, true), (12, true), (13, true), (14, true), (15, true), (16, true), (17, true), (18, true), (19, true), (20, true), (21, true), (22, true), (23, true), (24, true), (25, true), (26, true), (27, true), (28, true), (29, true), (30, true), (31, true), (32, true), (33, true), (34, true), (35, true), (36, true), (37, true), (38, true), (39, true), (40, true), (41, true)] (fun i => !([] : List Nat).contains i) 42 (by kernel_rfl) (by kernel_rfl) rfl (by kernel_rfl) ?_
         refine AD1.rp rfl rfl rfl (fun _ _ h => h) (rp_move rfl rfl) ?_
         refine AD1.rp rfl rfl rfl (fun _ _ h => h) (rp_field_ref Try.underlying79 rfl rfl rfl inf3 (by decide) rfl) ?_
         refine AD1.rd rfl rfl rfl (fun _ _ h => h) (rd_load_ref Try.underlying3 rfl rfl rfl rfl rfl rfl) ?_
         refine AD1.rp rfl rfl rfl (fun _ _ h => h) (rp_index_map Try.underlying29 inf3 rfl rfl rfl rfl (by assumption)) ?_
         refine AD1.rd rfl rfl rfl (fun _ _ h => h) (rd_load_ad Try.underlying3 rfl rfl rfl rfl) ?_
         (refine AD1.rp rfl rfl rfl (fun _ _ h => h) (rp_neqT rfl rfl rfl (by first | assumption | omega | (dsimp only; omega))) ?_)
         refine AD1.rp rfl rfl rfl (fun _ _ h => h) (rp_move rfl rfl) ?_
         refine AD1.rpy rfl rfl rfl rfl (fun _ _ h => h) (rp_field_ref Try.underlying79 rfl rfl rfl inf3 (by decide) rfl) ?_
         refine AD1.rdy rfl rfl rfl rfl (fun _ _ h => h) (rd_load_ref Try.underlying3 rfl rfl rfl rfl rfl rfl) ?_
         refine AD1.rpy rfl rfl rfl rfl (fun _ _ h => h) (rp_move rfl rfl) ?_
         refine AD1.rpy rfl rfl rfl rfl (fun _ _ h => h) (rp_field_ref Try.underlying79 rfl rfl rfl inf3 (by decide) rfl) ?_
         refine AD1.rdy rfl rfl rfl rfl (fun _ _ h => h) (rd_load_ref Try.underlying3 rfl rfl rfl rfl rfl rfl) ?_
         refine AD1.rpy rfl rfl rfl rfl (fun _ _ h => h) (rp_index_map Try.underlying29 inf3 rfl rfl rfl rfl (by assumption)) ?_
         refine AD1.rdy rfl rfl rfl rfl (fun _ _ h => h) (rd_load_ad Try.underlying3 rfl rfl rfl rfl) ?_
         (refine AD1.rpy rfl rfl rfl rfl (fun _ _ h => h) (rp_add rfl rfl rfl (by first | omega | (dsimp only; omega))) ?_)
         refine AD1.rpy rfl rfl rfl rfl (fun _ _ h => h) (rp_move rfl rfl) ?_
         refine AD1.rpy rfl rfl rfl rfl (fun _ _ h => h) (rp_move rfl rfl) ?_
         refine AD1.rpy rfl rfl rfl rfl (fun _ _ h => h) (rp_index_map Try.underlying29 inf3 rfl rfl rfl rfl (by assumption)) ?_
         refine AD1.rdy rfl rfl rfl rfl (fun _ _ h => h) (rd_load_ad Try.underlying3 rfl rfl rfl rfl) ?_
         (refine AD1.rpy rfl rfl rfl rfl (fun _ _ h => h) (rp_eqlT rfl rfl rfl (by first | assumption | omega | (dsimp only; omega))) ?_)
         refine AD1.rp rfl rfl rfl (fun _ _ h => h) (rp_pick rfl rfl rfl) ?_
         refine AD1.rp rfl rfl rfl (fun _ _ h => h) (rp_move rfl rfl) ?_
         refine AD1.rpy rfl rfl rfl rfl (fun _ _ h => h) (rp_move rfl rfl) ?_
         refine AD1.rpy rfl rfl rfl rfl (fun _ _ h => h) (rp_field_ref Try.underlying79 rfl rfl rfl inf3 (by decide) rfl) ?_
         refine AD1.rdy rfl rfl rfl rfl (fun _ _ h => h) (rd_load_ref Try.underlying3 rfl rfl rfl rfl rfl rfl) ?_
         refine AD1.rpy rfl rfl rfl rfl (fun _ _ h => h) (rp_index_own Try.underlying29 inf3 rfl rfl rfl rfl (by first | assumption | omega)) ?_
         refine AD1.rdy rfl rfl rfl rfl (fun _ _ h => h) (rd_load_map Try.underlying3 rfl rfl rfl rfl rfl rfl (by assumption)) ?_
         (refine AD1.rpy rfl rfl rfl rfl (fun _ _ h => h) (rp_neqT rfl rfl rfl (by first | assumption | omega | (dsimp only; omega))) ?_)
         refine AD1.rp rfl rfl rfl (fun _ _ h => h) (rp_pick rfl rfl rfl) ?_
         refine AD1.rp rfl rfl rfl (fun _ _ h => h) (rp_move rfl rfl) ?_
         refine AD1.rpy rfl rfl rfl rfl (fun _ _ h => h) (rp_move rfl rfl) ?_
         refine AD1.rpy rfl rfl rfl rfl (fun _ _ h => h) (rp_field_ref Try.underlying79 rfl rfl rfl inf3 (by decide) rfl) ?_
         refine AD1.rdy rfl rfl rfl rfl (fun _ _ h => h) (rd_load_ref Try.underlying3 rfl rfl rfl rfl rfl rfl) ?_
         refine AD1.rpy rfl rfl rfl rfl (fun _ _ h => h) (rp_index_own Try.underlying29 inf3 rfl rfl rfl rfl (by first | assumption | omega)) ?_
         refine AD1.rdy rfl rfl rfl rfl (fun _ _ h => h) (rd_load_map Try.underlying3 rfl rfl rfl rfl rfl rfl (by assumption)) ?_
         (refine AD1.rpy rfl rfl rfl rfl (fun _ _ h => h) (rp_add rfl rfl rfl (by first | omega | (dsimp only; omega))) ?_)
         refine AD1.rpy rfl rfl rfl rfl (fun _ _ h => h) (rp_move rfl rfl) ?_
         refine AD1.rpy rfl rfl rfl rfl (fun _ _ h => h) (rp_move rfl rfl) ?_
         refine AD1.rpy rfl rfl rfl rfl (fun _ _ h => h) (rp_index_own Try.underlying29 inf3 rfl rfl rfl rfl (by first | assumption | omega)) ?_
         refine AD1.rdy rfl rfl rfl rfl (fun _ _ h => h) (rd_load_map Try.underlying3 rfl rfl rfl rfl rfl rfl (by assumption)) ?_
         (refine AD1.rpy rfl rfl rfl rfl (fun _ _ h => h) (rp_lssF rfl rfl rfl (by first | assumption | omega | (dsimp only; omega))) ?_)
         refine AD1.rp rfl rfl rfl (fun _ _ h => h) (rp_pick rfl rfl rfl) ?_
         refine AD1.nil ?_
         try simp only [thenS, S.put]
         refine AW.condF rfl ?_
         refine AW.skip ?_
         try simp only [thenS]
         refine AW.region ?_
         refine AL.rp rfl rfl (rp_move rfl rfl) ?_
         refine AL.rp rfl rfl (rp_add rfl rfl rfl (by first | omega | (dsimp only; omega))) ?_
         refine AL.rp rfl rfl (rp_assign rfl rfl) ?_
         refine AL.nil ?_
         try simp only [thenS, S.put]
         refine ⟨_, ?_, ⟨i + 1, L, by omega, hR', rfl⟩, ?_⟩
         ·exact (Less.of rfl (by repeat (first | exact trivial | refine ⟨⟨_, rfl, Wk.refl _⟩, ?_⟩ | refine ⟨⟨_, rfl, Wk.nil _ _⟩, ?_⟩ | refine ⟨⟨_, rfl, Wk.junk _⟩, ?_⟩)) (by repeat (first | exact trivial | refine ⟨rfl, ?_⟩)) rfl)
         ·simp [S.nat, fnd]; omega
      ·have hR' := hskip fun h1 h2 h3 => by omega
       have hf9 : f ≤ 1000000000 := by omega
       clear htri' hgd hfd htri hftl hgtl hskip
       refine AW.seq ?_
       refine AW.seq ?_
       refine AW.region ?_
       refine AL.rp rfl rfl (rp_move rfl rfl) ?_
       refine AL.rp rfl rfl (rp_field_ref Try.underlying24 rfl rfl rfl inf22 (by decide) rfl) ?_
       refine AL.rd rfl rfl (rd_load_ref Try.underlying22 rfl rfl rfl rfl rfl rfl) ?_
       refine AL.rp rfl rfl (rp_move rfl rfl) ?_
       refine AL.rp rfl rfl (rp_index_map Try.underlying22 inf69 rfl rfl rfl rfl (by assumption)) ?_
       refine AL.rp rfl rfl (rp_field_ad Try.underlying69 rfl rfl rfl inf67 (by decide) rfl) ?_
       refine AL.rd rfl rfl (rd_load_ad Try.underlying67 rfl rfl rfl rfl) ?_
       refine AL.rp rfl rfl (rp_len_map Try.underlying67 rfl rfl (by assumption)) ?_
       (refine AL.rp rfl rfl (rp_lssT rfl rfl rfl (by first | assumption | omega | (dsimp only; omega))) ?_)
       refine AL.nil ?_
       try simp only [thenS, S.put]
       refine AW.condT rfl ?_
       refine AW.skip ?_
       try simp only [thenS]
       refine AW.seq ?_
       refine AW.block ?_
       refine AW.seq ?_
       refine AW.region ?_
       refine AL.rp rfl rfl (rp_field_ref Try.underlying24 rfl rfl rfl inf22 (by decide) rfl) ?_
       refine AL.rd rfl rfl (rd_load_ref Try.underlying22 rfl rfl rfl rfl rfl rfl) ?_
       refine AL.rp rfl rfl (rp_move rfl rfl) ?_
       refine AL.rp rfl rfl (rp_index_map Try.underlying22 inf69 rfl rfl rfl rfl (by assumption)) ?_
       refine AL.rp rfl rfl (rp_field_ad Try.underlying69 rfl rfl rfl inf67 (by decide) rfl) ?_
       refine AL.rd rfl rfl (rd_load_ad Try.underlying67 rfl rfl rfl rfl) ?_
       refine AL.rp rfl rfl (rp_move rfl rfl) ?_
       refine AL.rp rfl rfl (rp_index_map Try.underlying67 inf79 rfl rfl rfl rfl (by assumption)) ?_
       refine AL.rd rfl rfl (rd_loads_ad Try.underlying79 rfl inf79 rfl rfl rfl rfl) ?_
       refine AL.sm rfl (sm_alloc (l := [.d (.p (.int .i64 0)), .d (.p (.int .i64 0)), .d (.p (.int .i64 0)), .d (.p (.int .i64 0))]) 11 inf79 rfl (by simp [S.clean, S.put, S.newObj, S.forget, V.has, V.hasL, junkIf, setL, V.cs, hasL_i, hasL_b, hasL_s, hasL_n, hasL_rep, hasL_flat, hasL_append, -List.map_set]) rfl rfl) ?_
       refine AL.st rfl (st_store_any inf79 rfl rfl rfl rfl rfl rfl rfl rfl (by first | decide | (simp; done) | (simp; omega)) rfl) ?_
       refine AL.nil ?_
       try simp only [thenS, S.put, S.newObj, setL, V.cs, List.length_cons, List.length_nil, List.take_succ_cons, List.take_zero, List.drop_succ_cons, List.drop_zero, List.drop_nil, List.nil_append, List.cons_append, List.append_nil, Nat.zero_add, Nat.reduceAdd, List.map_cons, List.map_nil, List.set_cons_zero, List.set_cons_succ]
       refine AW.seq ?_
       refine AW.draw [(0, true), (1, true), (2, true), (3, true), (4, true), (5, true), (6, true), (7, true), (8, true), (9, true), (10, true), (11, true), (12, true), (13, true), (14, true), (15, true), (16, true), (17, true), (18, true), (19, true), (20, true), (21, true), (22, true), (23, true), (24, true), (25, true), (26, true), (27, true), (28, true), (29, true), (30, true), (31, true), (32, true), (33, true), (34, true), (35, true), (36, true), (37, true), (38, true), (39, true), (40, true), (41, true)] (fun i => !([] : List Nat).contains i) 42 (by kernel_rfl) (by kernel_rfl) rfl (by kernel_rfl) ?_
       refine AD1.rp rfl rfl rfl (fun _ _ h => h) (rp_move rfl rfl) ?_
       refine AD1.rp rfl rfl rfl (fun _ _ h => h) (rp_field_ref Try.underlying79 rfl rfl rfl inf3 (by decide) rfl) ?_
       refine AD1.rd rfl rfl rfl (fun _ _ h => h) (rd_load_ref Try.underlying3 rfl rfl rfl rfl rfl rfl) ?_
       refine AD1.rp rfl rfl rfl (fun _ _ h => h) (rp_index_map Try.underlying29 inf3 rfl rfl rfl rfl (by assumption)) ?_
       refine AD1.rd rfl rfl rfl (fun _ _ h => h) (rd_load_ad Try.underlying3 rfl rfl rfl rfl) ?_
       (refine AD1.rp rfl rfl rfl (fun _ _ h => h) (rp_neqT rfl rfl rfl (by first | assumption | omega | (dsimp only; omega))) ?_)
       refine AD1.rp rfl rfl rfl (fun _ _ h => h) (rp_move rfl rfl) ?_
       refine AD1.rpy rfl rfl rfl rfl (fun _ _ h => h) (rp_field_ref Try.underlying79 rfl rfl rfl inf3 (by decide) rfl) ?_
       refine AD1.rdy rfl rfl rfl rfl (fun _ _ h => h) (rd_load_ref Try.underlying3 rfl rfl rfl rfl rfl rfl) ?_
       refine AD1.rpy rfl rfl rfl rfl (fun _ _ h => h) (rp_move rfl rfl) ?_
       refine AD1.rpy rfl rfl rfl rfl (fun _ _ h => h) (rp_field_ref Try.underlying79 rfl rfl rfl inf3 (by decide) rfl) ?_
       refine AD1.rdy rfl rfl rfl rfl (fun _ _ h => h) (rd_load_ref Try.underlying3 rfl rfl rfl rfl rfl rfl) ?_
       refine AD1.rpy rfl rfl rfl rfl (fun _ _ h => h) (rp_index_map Try.underlying29 inf3 rfl rfl rfl rfl (by assumption)) ?_
       refine AD1.rdy rfl rfl rfl rfl (fun _ _ h => h) (rd_load_ad Try.underlying3 rfl rfl rfl rfl) ?_
       (refine AD1.rpy rfl rfl rfl rfl (fun _ _ h => h) (rp_add rfl rfl rfl (by first | omega | (dsimp only; omega))) ?_)
       refine AD1.rpy rfl rfl rfl rfl (fun _ _ h => h) (rp_move rfl rfl) ?_
       refine AD1.rpy rfl rfl rfl rfl (fun _ _ h => h) (rp_move rfl rfl) ?_
       refine AD1.rpy rfl rfl rfl rfl (fun _ _ h => h) (rp_index_map Try.underlying29 inf3 rfl rfl rfl rfl (by assumption)) ?_
       refine AD1.rdy rfl rfl rfl rfl (fun _ _ h => h) (rd_load_ad Try.underlying3 rfl rfl rfl rfl) ?_
       (refine AD1.rpy rfl rfl rfl rfl (fun _ _ h => h) (rp_eqlF rfl rfl rfl (by first | assumption | omega | (dsimp only; omega))) ?_)
       refine AD1.rp rfl rfl rfl (fun _ _ h => h) (rp_pick rfl rfl rfl) ?_
       refine AD1.rp rfl rfl rfl (fun _ _ h => h) (rp_move rfl rfl) ?_
       refine AD1.noV rfl rfl rfl rfl rfl (fun _ _ h => h) ?_
       refine AD1.noV rfl rfl rfl rfl rfl (fun _ _ h => h) ?_
       refine AD1.noV rfl rfl rfl rfl rfl (fun _ _ h => h) ?_
       refine AD1.noV rfl rfl rfl rfl rfl (fun _ _ h => h) ?_
       refine AD1.noV rfl rfl rfl rfl rfl (fun _ _ h => h) ?_
       refine AD1.noV rfl rfl rfl rfl rfl (fun _ _ h => h) ?_
       refine AD1.rp rfl rfl rfl (fun _ _ h => h) (rp_pick rfl rfl rfl) ?_
       refine AD1.rp rfl rfl rfl (fun _ _ h => h) (rp_move rfl rfl) ?_
       refine AD1.noV rfl rfl rfl rfl rfl (fun _ _ h => h) ?_
       refine AD1.noV rfl rfl rfl rfl rfl (fun _ _ h => h) ?_
       refine AD1.noV rfl rfl rfl rfl rfl (fun _ _ h => h) ?_
       refine AD1.noV rfl rfl rfl rfl rfl (fun _ _ h => h) ?_
       refine AD1.noV rfl rfl rfl rfl rfl (fun _ _ h => h) ?_
       refine AD1.noV rfl rfl rfl rfl rfl (fun _ _ h => h) ?_
       refine AD1.noV rfl rfl rfl rfl rfl (fun _ _ h => h) ?_
       refine AD1.noV rfl rfl rfl rfl rfl (fun _ _ h => h) ?_
       refine AD1.noV rfl rfl rfl rfl rfl (fun _ _ h => h) ?_
       refine AD1.noV rfl rfl rfl rfl rfl (fun _ _ h => h) ?_
       refine AD1.noV rfl rfl rfl rfl rfl (fun _ _ h => h) ?_
       refine AD1.rp rfl rfl rfl (fun _ _ h => h) (rp_pick rfl rfl rfl) ?_
       refine AD1.nil ?_
       try simp only [thenS, S.put]
       refine AW.condF rfl ?_
       refine AW.skip ?_
       try simp only [thenS]
       refine AW.region ?_
       refine AL.rp rfl rfl (rp_move rfl rfl) ?_
       refine AL.rp rfl rfl (rp_add rfl rfl rfl (by first | omega | (dsimp only; omega))) ?_
       refine AL.rp rfl rfl (rp_assign rfl rfl) ?_
       refine AL.nil ?_
       try simp only [thenS, S.put]
       refine ⟨_, ?_, ⟨i + 1, L, by omega, hR', rfl⟩, ?_⟩
       ·exact (Less.of rfl (by repeat (first | exact trivial | refine ⟨⟨_, rfl, Wk.refl _⟩, ?_⟩ | refine ⟨⟨_, rfl, Wk.nil _ _⟩, ?_⟩ | refine ⟨⟨_, rfl, Wk.junk _⟩, ?_⟩)) (by repeat (first | exact trivial | refine ⟨rfl, ?_⟩)) rfl)
       ·simp [S.nat, fnd]; omega
    ·have hR' : Rd (TI I G) (TE I G) n k L0 (fun _ p _ => p < q + 1) L := ⟨hR.snd, hR.snd0, hR.low, hR.cnt, fun p' q' w' x0 y0 h hg' h1 h2 => by
      by_cases e : q' = q
      ·subst e
       obtain ⟨hw1, j, a, h3, h4, h5⟩ := edge_q hg'
       exact hR.seen p' q' w' x0 y0 (.inr ⟨rfl, hw1, j, a, by have := (List.getElem?_eq_some_iff.1 h3).1; omega, h3, h4, h5⟩) hg' h1 h2
      ·exact hR.seen p' q' w' x0 y0 (.inl (by omega)) hg' h1 h2⟩
     refine AW.seq ?_
     refine AW.seq ?_
     refine AW.region ?_
     refine AL.rp rfl rfl (rp_move rfl rfl) ?_
     refine AL.rp rfl rfl (rp_field_ref Try.underlying24 rfl rfl rfl inf22 (by decide) rfl) ?_
     refine AL.rd rfl rfl (rd_load_ref Try.underlying22 rfl rfl rfl rfl rfl rfl) ?_
     refine AL.rp rfl rfl (rp_move rfl rfl) ?_
     refine AL.rp rfl rfl (rp_index_map Try.underlying22 inf69 rfl rfl rfl rfl (by assumption)) ?_
     refine AL.rp rfl rfl (rp_field_ad Try.underlying69 rfl rfl rfl inf67 (by decide) rfl) ?_
     refine AL.rd rfl rfl (rd_load_ad Try.underlying67 rfl rfl rfl rfl) ?_
     refine AL.rp rfl rfl (rp_len_map Try.underlying67 rfl rfl (by assumption)) ?_
     (refine AL.rp rfl rfl (rp_lssF rfl rfl rfl (by first | assumption | omega | (dsimp only; omega))) ?_)
     refine AL.nil ?_
     try simp only [thenS, S.put]
     refine AW.condF rfl ?_
     refine AW.exit ?_
     try simp only [thenS, inBlockS, ↓reduceIte, Nat.reduceEqDiff]
     refine AW.region ?_
     refine AL.rp rfl rfl (rp_move rfl rfl) ?_
     refine AL.rp rfl rfl (rp_add rfl rfl rfl (by first | omega | (dsimp only; omega))) ?_
     refine AL.rp rfl rfl (rp_assign rfl rfl) ?_
     refine AL.nil ?_
     try simp only [thenS, S.put]
     refine ⟨_, ?_, ⟨q + 1, L, by omega, hR', rfl⟩, ?_⟩
     ·exact (Less.of rfl (by repeat (first | exact trivial | refine ⟨⟨_, rfl, Wk.refl _⟩, ?_⟩ | refine ⟨⟨_, rfl, Wk.nil _ _⟩, ?_⟩ | refine ⟨⟨_, rfl, Wk.junk _⟩, ?_⟩)) (by repeat (first | exact trivial | refine ⟨rfl, ?_⟩)) rfl)
     ·simp [S.nat, fnd]; omega
   ·obtain ⟨hs, hc'⟩ := hR.finish hin (fun q d h => (hB.ini.1 h.2.2).1) (fun p q' w h => by have := (hin p q' w h).2; omega)
    refine AW.seq ?_
    refine AW.seq ?_
    refine AW.region ?_
    refine AL.rp rfl rfl (rp_move rfl rfl) ?_
    refine AL.rp rfl rfl (rp_move rfl rfl) ?_
    (refine AL.rp rfl rfl (rp_lssF rfl rfl rfl (by first | assumption | omega | (dsimp only; omega))) ?_)
    refine AL.nil ?_
    try simp only [thenS, S.put]
    refine AW.condF rfl ?_
    refine AW.exit ?_
    try simp only [thenS, inBlockS, ↓reduceIte, Nat.reduceEqDiff]
    refine AW.region ?_
    refine AL.rp rfl rfl (rp_move rfl rfl) ?_
    refine AL.rp rfl rfl (rp_add rfl rfl rfl (by first | omega | (dsimp only; omega))) ?_
    refine AL.rp rfl rfl (rp_assign rfl rfl) ?_
    refine AL.nil ?_
    try simp only [thenS, S.put]
    refine ⟨_, ?_, ⟨k + 1, L, by omega, hs, hc', rfl⟩, ?_⟩
    ·exact (Less.of rfl (by repeat (first | exact trivial | refine ⟨⟨_, rfl, Wk.refl _⟩, ?_⟩ | refine ⟨⟨_, rfl, Wk.nil _ _⟩, ?_⟩ | refine ⟨⟨_, rfl, Wk.junk _⟩, ?_⟩)) (by repeat (first | exact trivial | refine ⟨rfl, ?_⟩)) rfl)
    ·simp [S.nat, fnd]; omega
  ·have hLD := Rd.all hL0 hc (by omega)
   rw [hD] at hLD
   have hll := hL0.len
   subst hLD
   refine AW.seq ?_
   refine AW.seq ?_
   refine AW.region ?_
   refine AL.rp rfl rfl (rp_move rfl rfl) ?_
   refine AL.rp rfl rfl (rp_move rfl rfl) ?_
   (refine AL.rp rfl rfl (rp_lssF rfl rfl rfl (by first | assumption | omega | (dsimp only; omega))) ?_)
   refine AL.nil ?_
   try simp only [thenS, S.put]
   refine AW.condF rfl ?_
   refine AW.exit ?_
   try simp only [thenS, inBlockS, ↓reduceIte, Nat.reduceEqDiff]
   refine AW.seq ?_
   refine AW.freeze 6 8 (L0.map encN) rfl rfl rfl (by simp [hll]) (by omega) (rows1 rfl) ?_
   refine AW.region ?_
   refine AL.rp rfl rfl (rp_move rfl rfl) ?_
   refine AL.rp rfl rfl (rp_assign rfl rfl) ?_
   refine AL.nil ?_
   try simp only [thenS, S.put]
   refine AW.ret ?_
   exact ⟨[_], ⟨rfl, trivial⟩, rfl, by simp [tupOf, V.pure, V.has]⟩
end Go.Proofs.Ytnpbdcjfealoeaa
