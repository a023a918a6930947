-- %hmode
/- What it costs at least to read one word and to write another, by rounds: the document's Cheapest. -/
import Derived.Test.YtnpbdcjfealoeaaAmWd
import Derived.Test.YtnpbdcjfealoeaaWgh2
import Derived.Test.YtnpbdcjfealoeaaAmIZ
import Derived.Test.YtnpbdcjfealoeaaAmJ
namespace Go.Proofs.Ytnpbdcjfealoeaa
open Go.RowKit
set_option linter.unusedSimpArgs false
set_option linter.unusedVariables false
set_option maxRecDepth 100000

set_option maxHeartbeats 1600000 in
theorem am_CheapR (m : Mach) (x : List Int) (h0 : machE m = 0) (hx12 : x.length ≤ 12) : Fn Try.prog 78 [mV m, .d (intsD x), .nil, .b true] (fun v => v = .i (gBest m.start m.states x [] true : Int)) := by
 have hbig := big_eq
 obtain ⟨h60, h400, hst, hz⟩ := machE_zero h0
 obtain ⟨st, sts⟩ := m
 simp only at h60 h400 hst hz ⊢
 obtain ⟨y, hy⟩ : ∃ y : List Int, y = [] := ⟨_, rfl⟩
 rw [← hy]
 have hal4 : ∀ x ∈ sts, x.arcs.length ≤ 400 := fun x hx => Nat.le_trans (arcN_mem sts x hx) h400
 have hfz : ∀ s ∈ sts, 0 ≤ s.fin ∧ s.fin ≤ 1000000001 := fun s hs => by
  have := (hz s hs).1
  simp only [finOk, Bool.or_eq_true, decide_eq_true_eq] at this
  omega
 have hzt : ∀ s ∈ sts, ∀ a ∈ s.arcs, 0 ≤ a.t ∧ a.t < sts.length := fun s hs a ha => by
  have := (hz s hs).2 a ha
  simp only [arOk, decide_eq_true_eq] at this
  omega
 have hzw : ∀ s ∈ sts, ∀ a ∈ s.arcs, 0 ≤ a.w ∧ a.w ≤ 1000000000 := fun s hs a ha => by
  have := (hz s hs).2 a ha
  simp only [arOk, decide_eq_true_eq] at this
  omega
 clear hz h400 h0
 obtain ⟨B, hB⟩ : ∃ B, gBest st sts x y true = B := ⟨_, rfl⟩
 rw [hB]
 have hBd : ∀ b, Bsw sts x y (gDst st sts x y true) sts.length b → b = B := fun b h => h.done.symm.trans hB
 have hdl : dstL (gInit st x y) (gEdge sts x y true) (sts.length * (x.length + 1) * (y.length + 1)) = (List.range (sts.length * (x.length + 1) * (y.length + 1))).map (gDst st sts x y true) := rfl
 have hdone : ∀ {S0 k L}, Chp st sts x y true S0 k 0 false L → sts.length * (x.length + 1) * (y.length + 1) ≤ k → L = _ := fun {S0 k L} h hk => (h.done hk hzt).trans hdl
 have hdle : ∀ k, gDst st sts x y true k ≤ big := fun k => (dst_spec k).1
 obtain ⟨D, hD⟩ : ∃ D, gDst st sts x y true = D := ⟨_, rfl⟩
 rw [hD] at hBd hdle
 clear hdl hB
 have hend : ∀ q, q < sts.length → ixW x y q x.length y.length < sts.length * (x.length + 1) * (y.length + 1) := fun q hq => ix_lt hq (Nat.le_refl _) (Nat.le_refl _)
 have hinilt : ∀ q, q < sts.length → ixW x y q 0 0 < sts.length * (x.length + 1) * (y.length + 1) := fun q hq => ix_lt hq (Nat.zero_le _) (Nat.zero_le _)
 have htolt : ∀ {q i j : Nat}, q < sts.length → i ≤ x.length → j ≤ y.length → ixW x y q i j < sts.length * (x.length + 1) * (y.length + 1) := fun h1 h2 h3 => ix_lt h1 h2 h3
 have hdec : ∀ k, k < sts.length * (x.length + 1) * (y.length + 1) → k / (y.length + 1) / (x.length + 1) < sts.length := fun k hk => by
  rw [Nat.div_div_eq_div_mul, Nat.div_lt_iff_lt_mul (Nat.mul_pos (by omega) (by omega))]
  rw [Nat.mul_assoc, Nat.mul_comm (x.length + 1)] at hk
  exact hk
 have hixE : ∀ q i j, ixW x y q i j = (q * (x.length + 1) + i) * (y.length + 1) + j := fun _ _ _ => rfl
 obtain ⟨n, hn⟩ : ∃ n, sts.length = n := ⟨_, rfl⟩
 obtain ⟨X, hX⟩ : ∃ n, x.length = n := ⟨_, rfl⟩
 obtain ⟨Y, hY⟩ : ∃ n, y.length = n := ⟨_, rfl⟩
 obtain ⟨Wi, hWi⟩ : ∃ Wi : Int, Wi = (Y : Int) + 1 := ⟨_, rfl⟩
 have hY0 : Y = 0 := by rw [← hY, hy]; rfl
 obtain ⟨N, hN⟩ : ∃ N, n * (X + 1) * (Y + 1) = N := ⟨_, rfl⟩
 obtain ⟨A, hA⟩ : ∃ A, n * (X + 1) = A := ⟨_, rfl⟩
 have hAi : (n : Int) * ((X : Int) + 1) = (A : Int) := by rw [← hA]; push_cast; rfl
 have hNi : (A : Int) * Wi = (N : Int) := by rw [← hN, hA, hWi]; push_cast; rfl
 have hNb : N ≤ 10140 := by
  rw [← hN]
  exact Nat.mul_le_mul (Nat.mul_le_mul (show n ≤ 60 by omega) (show X + 1 ≤ 13 by omega)) (show Y + 1 ≤ 13 by omega)
 have hAb : A ≤ 780 := by
  rw [← hA]
  exact Nat.mul_le_mul (show n ≤ 60 by omega) (show X + 1 ≤ 13 by omega)
 rw [hn] at h60 hst hzt
 rw [hn, hX, hY, hN] at hend hdec htolt hinilt
 rw [hX, hY] at hixE
 have hS : ∀ L, Snd (gInit st x y) (gEdge sts x y true) N L → Chp st sts x y true L.sum 0 0 false L := fun L h => Chp.start (by rw [hn, hX, hY, hN]; exact h)
 have hS2 : ∀ {S0 k T ag L}, Chp st sts x y true S0 k T ag L → Snd (gInit st x y) (gEdge sts x y true) N L := fun h => by have := h.snd; rw [hn, hX, hY, hN] at this; exact this
 have hdone' : ∀ {S0 k L}, Chp st sts x y true S0 k 0 false L → N ≤ k → L = (List.range N).map D := fun h hk => by
  have := hdone h (by rw [hn, hX, hY, hN]; exact hk)
  rw [hn, hX, hY, hN, hD] at this
  exact this
 clear hdone
 refine Fn.intro (n := 220) ⟨Try.func78, rfl, rfl, rfl, rfl⟩ (by simp [V.pure, V.has, V.hasL]) (by simp) fun w0 out => ?_
 refine AW.seq ?_
 refine AW.region ?_
 refine AL.sm rfl (sm_box 4 rfl rfl rfl (by first | rfl | simp [S.clean, S.put, S.newObj, S.forget, V.has, V.hasL, junkIf, setL, V.cs, hasL_i, hasL_b, hasL_s, hasL_n, hasL_rep, hasL_flat, hasL_append, -List.map_set]) rfl) ?_
 refine AL.rp rfl rfl (rp_assign rfl rfl) ?_
 refine AL.nil ?_
 try simp only [thenS, S.put, S.newObj, setL, V.cs, List.length_cons, List.length_nil, List.take_succ_cons, List.take_zero, List.drop_succ_cons, List.drop_zero, List.drop_nil, List.nil_append, List.cons_append, List.append_nil, Nat.zero_add, Nat.reduceAdd, List.map_cons, List.map_nil, List.set_cons_zero, List.set_cons_succ, enum]
 refine AW.seq ?_
 refine AW.region ?_
 (first | (refine AL.rp rfl rfl (rp_field_ref Try.underlying24 rfl rfl rfl inf22 (by decide) rfl) ?_) | (refine AL.rp rfl rfl (rp_field_ad Try.underlying24 rfl rfl rfl inf22 (by decide) rfl) ?_))
 (first | (refine AL.rd rfl rfl (rd_load_ref Try.underlying22 rfl rfl rfl rfl rfl rfl) ?_) | (refine AL.rd rfl rfl (rd_load_ad Try.underlying22 rfl rfl rfl rfl) ?_) | (refine AL.rd rfl rfl (rd_load_map Try.underlying22 rfl rfl rfl rfl rfl rfl (by assumption)) ?_) | (refine AL.rd rfl rfl (rd_load_flat Try.underlying22 rfl rfl rfl rfl rfl rfl (fun _ => rfl) (by assumption) rfl) ?_))
 (first | (refine AL.rp rfl rfl (rp_len_map Try.underlying22 rfl rfl (by assumption)) ?_) | (refine AL.rp rfl rfl (rp_len_own Try.underlying22 rfl rfl) ?_) | (refine AL.rp rfl rfl (rp_len_sl Try.underlying22 rfl rfl) ?_) | (refine AL.rp rfl rfl (rp_len_nil Try.underlying22 rfl rfl) ?_) | (refine AL.rp rfl rfl (rp_len_str Try.underlying22 rfl rfl) ?_))
 refine AL.rp rfl rfl (rp_assign rfl rfl) ?_
 refine AL.nil ?_
 try simp only [thenS, S.put]
 refine AW.seq ?_
 refine AW.region ?_
 refine AL.rp rfl rfl (rp_move rfl rfl) ?_
 (first | (refine AL.rp rfl rfl (rp_len_map Try.underlying29 rfl rfl (by assumption)) ?_) | (refine AL.rp rfl rfl (rp_len_own Try.underlying29 rfl rfl) ?_) | (refine AL.rp rfl rfl (rp_len_sl Try.underlying29 rfl rfl) ?_) | (refine AL.rp rfl rfl (rp_len_nil Try.underlying29 rfl rfl) ?_) | (refine AL.rp rfl rfl (rp_len_str Try.underlying29 rfl rfl) ?_))
 refine AL.rp rfl rfl (rp_addZ (Wi) rfl rfl rfl (by omega) (by omega)) ?_
 refine AL.rp rfl rfl (rp_assign rfl rfl) ?_
 refine AL.nil ?_
 try simp only [thenS, S.put]
 refine AW.seq ?_
 refine AW.region ?_
 refine AL.rp rfl rfl (rp_move rfl rfl) ?_
 refine AL.rp rfl rfl (rp_move rfl rfl) ?_
 (first | (refine AL.rp rfl rfl (rp_len_map Try.underlying29 rfl rfl (by assumption)) ?_) | (refine AL.rp rfl rfl (rp_len_own Try.underlying29 rfl rfl) ?_) | (refine AL.rp rfl rfl (rp_len_sl Try.underlying29 rfl rfl) ?_) | (refine AL.rp rfl rfl (rp_len_nil Try.underlying29 rfl rfl) ?_) | (refine AL.rp rfl rfl (rp_len_str Try.underlying29 rfl rfl) ?_))
 refine AL.rp rfl rfl (rp_add rfl rfl rfl (by first | omega | (dsimp only; omega))) ?_
 refine AL.rp rfl rfl (rp_mulZ ((A : Int)) rfl rfl rfl (by omega) (by omega)) ?_
 refine AL.rp rfl rfl (rp_move rfl rfl) ?_
 refine AL.rp rfl rfl (rp_mulZ ((N : Int)) rfl rfl rfl (by omega) (by omega)) ?_
 refine AL.sm rfl (sm_make_map 36 V.i (0) Try.underlying29 inf3 rfl rfl rfl rfl rfl (by omega) (by decide) (by first | rfl | simp [S.clean, S.put, S.newObj, S.forget, V.has, V.hasL, junkIf, setL, V.cs, hasL_i, hasL_b, hasL_s, hasL_n, hasL_rep, hasL_flat, hasL_append, -List.map_set]) rfl) ?_
 refine AL.rp rfl rfl (rp_assign rfl rfl) ?_
 refine AL.nil ?_
 try simp only [thenS, S.put, S.newObj, setL, V.cs, List.length_cons, List.length_nil, List.take_succ_cons, List.take_zero, List.drop_succ_cons, List.drop_zero, List.drop_nil, List.nil_append, List.cons_append, List.append_nil, Nat.zero_add, Nat.reduceAdd, List.map_cons, List.map_nil, List.set_cons_zero, List.set_cons_succ]
 refine AW.seq ?_
 refine AW.seq ?_
 refine AW.region ?_
 refine AL.rp rfl rfl (rp_assign rfl rfl) ?_
 refine AL.nil ?_
 try simp only [thenS, S.put]
 refine AW.block ?_
 refine AW.loop (fun s' => ∃ k : Nat, k ≤ N ∧ s' = ⟨220, [(1, .d (intsD x)), (2, .nil), (3, .b true), (4, .ref 4 0), (9, .i n), (10, .i Wi), (11, .own 36 1 N false), (12, .i k)], [(4, ⟨24, [.i st, .d (stsD sts)], false, 0⟩), (36, ⟨3, (part (fun _ => big) k (List.replicate N 0)).map V.n, false, 1⟩)], []⟩) (fun s' => N - s'.nat 12) ⟨_, ?_, 0, by omega, rfl⟩ ?_
 ·have hz0 : (List.replicate N (0 : Int)).map V.i = (List.replicate N 0).map V.n := by simp
  rw [hz0, part_zero]
  exact (Less.of rfl (by repeat (first | exact trivial | refine ⟨⟨_, rfl, Wk.refl _⟩, ?_⟩ | refine ⟨⟨_, rfl, Wk.nil _ _⟩, ?_⟩ | refine ⟨⟨_, rfl, Wk.junk _⟩, ?_⟩)) (by repeat (first | exact trivial | refine ⟨rfl, ?_⟩)) rfl)
 rintro s' ⟨k, hk, rfl⟩
 by_cases hlt : k < N
 ·have hx0 : (List.replicate N 0)[k]? = some 0 := by simp [List.getElem?_replicate, hlt]
  have hst2 := part_set (f := fun _ => big) hx0
  have hpl : k < (part (fun _ => big) k (List.replicate N 0)).length := by rw [part_len]; simpa using hlt
  refine AW.seq ?_
  refine AW.seq ?_
  refine AW.region ?_
  refine AL.rp rfl rfl (rp_move rfl rfl) ?_
  refine AL.rp rfl rfl (rp_move rfl rfl) ?_
  (first | (refine AL.rp rfl rfl (rp_len_map Try.underlying29 rfl rfl (by assumption)) ?_) | (refine AL.rp rfl rfl (rp_len_own Try.underlying29 rfl rfl) ?_) | (refine AL.rp rfl rfl (rp_len_sl Try.underlying29 rfl rfl) ?_) | (refine AL.rp rfl rfl (rp_len_nil Try.underlying29 rfl rfl) ?_) | (refine AL.rp rfl rfl (rp_len_str Try.underlying29 rfl rfl) ?_))
  (first | (refine AL.rp rfl rfl (rp_lssT rfl rfl rfl (by first | assumption | omega | (dsimp only; omega))) ?_) | (refine AL.rp rfl rfl (rp_lssF rfl rfl rfl (by first | assumption | omega | (dsimp only; omega))) ?_) | (refine AL.rp rfl rfl (rp_lss rfl rfl rfl) ?_))
  refine AL.nil ?_
  try simp only [thenS, S.put]
  refine AW.condT rfl ?_
  refine AW.skip ?_
  try simp only [thenS]
  refine AW.seq ?_
  refine AW.block ?_
  refine AW.region ?_
  refine AL.rp rfl rfl (rp_move rfl rfl) ?_
  refine AL.rp rfl rfl (rp_move rfl rfl) ?_
  (first | (refine AL.rp rfl rfl (rp_index_map Try.underlying29 inf3 rfl rfl rfl rfl (by assumption)) ?_) | (refine AL.rp rfl rfl (rp_index_own Try.underlying29 inf3 rfl rfl rfl rfl (by first | assumption | omega)) ?_) | (refine AL.rp rfl rfl (rd_index_sl Try.underlying29 inf3 rfl rfl rfl rfl (by assumption)) ?_) | (refine AL.rp rfl rfl (rp_index_own Try.underlying29 inf3 rfl rfl rfl (by omega) (by omega)) ?_))
  refine AL.st rfl (st_store_map2 (v := big) inf3 rfl rfl rfl rfl rfl rfl rfl rfl (by first | assumption | omega)) ?_
  refine AL.nil ?_
  try simp only [thenS, S.put, S.newObj, setL, V.cs, List.length_cons, List.length_nil, List.take_succ_cons, List.take_zero, List.drop_succ_cons, List.drop_zero, List.drop_nil, List.nil_append, List.cons_append, List.append_nil, Nat.zero_add, Nat.reduceAdd, List.map_cons, List.map_nil, List.set_cons_zero, List.set_cons_succ]
  refine AW.region ?_
  refine AL.rp rfl rfl (rp_move rfl rfl) ?_
  refine AL.rp rfl rfl (rp_add rfl rfl rfl (by first | omega | (dsimp only; omega))) ?_
  refine AL.rp rfl rfl (rp_assign rfl rfl) ?_
  refine AL.nil ?_
  try simp only [thenS, S.put]
  refine ⟨_, ?_, ⟨k + 1, by omega, rfl⟩, ?_⟩
  ·rw [← hst2]; exact (Less.of rfl (by repeat (first | exact trivial | refine ⟨⟨_, rfl, Wk.refl _⟩, ?_⟩ | refine ⟨⟨_, rfl, Wk.nil _ _⟩, ?_⟩ | refine ⟨⟨_, rfl, Wk.junk _⟩, ?_⟩)) (by repeat (first | exact trivial | refine ⟨rfl, ?_⟩)) rfl)
  ·simp [S.nat, fnd]; omega
 ·rw [part_full _ (by simp; omega), List.map_replicate]
  refine AW.seq ?_
  refine AW.seq ?_
  refine AW.region ?_
  refine AL.rp rfl rfl (rp_move rfl rfl) ?_
  refine AL.rp rfl rfl (rp_move rfl rfl) ?_
  (first | (refine AL.rp rfl rfl (rp_len_map Try.underlying29 rfl rfl (by assumption)) ?_) | (refine AL.rp rfl rfl (rp_len_own Try.underlying29 rfl rfl) ?_) | (refine AL.rp rfl rfl (rp_len_sl Try.underlying29 rfl rfl) ?_) | (refine AL.rp rfl rfl (rp_len_nil Try.underlying29 rfl rfl) ?_) | (refine AL.rp rfl rfl (rp_len_str Try.underlying29 rfl rfl) ?_))
  (first | (refine AL.rp rfl rfl (rp_lssT rfl rfl rfl (by first | assumption | omega | (dsimp only; omega))) ?_) | (refine AL.rp rfl rfl (rp_lssF rfl rfl rfl (by first | assumption | omega | (dsimp only; omega))) ?_) | (refine AL.rp rfl rfl (rp_lss rfl rfl rfl) ?_))
  refine AL.nil ?_
  try simp only [thenS, S.put]
  refine AW.condF rfl ?_
  refine AW.exit ?_
  try simp only [thenS, inBlockS, ↓reduceIte, Nat.reduceEqDiff]
  refine AW.seqc (fun s' => ∃ L : List Nat, Snd (gInit st x y) (gEdge sts x y true) N L ∧ s' = ⟨220, [(1, .d (intsD x)), (2, .nil), (3, .b true), (4, .ref 4 0), (9, .i n), (10, .i Wi), (11, .own 36 1 N false)], [(4, ⟨24, [.i st, .d (stsD sts)], false, 0⟩), (36, ⟨3, L.map V.n, false, 1⟩)], []⟩) ?_ ?_
  ·skip
   by_cases hs0 : 0 ≤ st
   ·obtain ⟨p, rfl⟩ : ∃ p : Nat, st = p := ⟨st.toNat, by omega⟩
    have hpn : p < n := by omega
    have hpN := hinilt p hpn
    obtain ⟨a1, ha1⟩ : ∃ a, p * (X + 1) = a := ⟨_, rfl⟩
    obtain ⟨a2, ha2⟩ : ∃ a, a1 * (Y + 1) = a := ⟨_, rfl⟩
    have hae : ixW x y p 0 0 = a2 := by rw [hixE, Nat.add_zero, Nat.add_zero, ha1, ha2]
    have ha1i : (p : Int) * ((X : Int) + 1) = (a1 : Int) := by rw [← ha1]; push_cast; rfl
    have ha2i : (a1 : Int) * Wi = (a2 : Int) := by rw [← ha2, hWi]; push_cast; rfl
    rw [hae] at hpN
    have ha1b : a1 ≤ a2 := by rw [← ha2]; exact Nat.le_mul_of_pos_right _ (by omega)
    have hpl : a2 < (List.replicate N big).length := by simpa using hpN
    refine AW.seq ?_
    refine AW.region ?_
    (first | (refine AL.rp rfl rfl (rp_field_ref Try.underlying24 rfl rfl rfl inf3 (by decide) rfl) ?_) | (refine AL.rp rfl rfl (rp_field_ad Try.underlying24 rfl rfl rfl inf3 (by decide) rfl) ?_))
    (first | (refine AL.rd rfl rfl (rd_load_ref Try.underlying3 rfl rfl rfl rfl rfl rfl) ?_) | (refine AL.rd rfl rfl (rd_load_ad Try.underlying3 rfl rfl rfl rfl) ?_) | (refine AL.rd rfl rfl (rd_load_map Try.underlying3 rfl rfl rfl rfl rfl rfl (by assumption)) ?_) | (refine AL.rd rfl rfl (rd_load_flat Try.underlying3 rfl rfl rfl rfl rfl rfl (fun _ => rfl) (by assumption) rfl) ?_))
    (first | (refine AL.rp rfl rfl (rp_geqT rfl rfl rfl (by first | assumption | omega | (dsimp only; omega))) ?_) | (refine AL.rp rfl rfl (rp_geqF rfl rfl rfl (by first | assumption | omega | (dsimp only; omega))) ?_) | (refine AL.rp rfl rfl (rp_geq rfl rfl rfl) ?_))
    refine AL.nil ?_
    try simp only [thenS, S.put]
    refine AW.condT rfl ?_
    refine AW.region ?_
    refine AL.rp rfl rfl (rp_move rfl rfl) ?_
    (first | (refine AL.rp rfl rfl (rp_field_ref Try.underlying24 rfl rfl rfl inf3 (by decide) rfl) ?_) | (refine AL.rp rfl rfl (rp_field_ad Try.underlying24 rfl rfl rfl inf3 (by decide) rfl) ?_))
    (first | (refine AL.rd rfl rfl (rd_load_ref Try.underlying3 rfl rfl rfl rfl rfl rfl) ?_) | (refine AL.rd rfl rfl (rd_load_ad Try.underlying3 rfl rfl rfl rfl) ?_) | (refine AL.rd rfl rfl (rd_load_map Try.underlying3 rfl rfl rfl rfl rfl rfl (by assumption)) ?_) | (refine AL.rd rfl rfl (rd_load_flat Try.underlying3 rfl rfl rfl rfl rfl rfl (fun _ => rfl) (by assumption) rfl) ?_))
    refine AL.rp rfl rfl (rp_move rfl rfl) ?_
    (first | (refine AL.rp rfl rfl (rp_len_map Try.underlying29 rfl rfl (by assumption)) ?_) | (refine AL.rp rfl rfl (rp_len_own Try.underlying29 rfl rfl) ?_) | (refine AL.rp rfl rfl (rp_len_sl Try.underlying29 rfl rfl) ?_) | (refine AL.rp rfl rfl (rp_len_nil Try.underlying29 rfl rfl) ?_) | (refine AL.rp rfl rfl (rp_len_str Try.underlying29 rfl rfl) ?_))
    refine AL.rp rfl rfl (rp_add rfl rfl rfl (by first | omega | (dsimp only; omega))) ?_
    refine AL.rp rfl rfl (rp_mulZ ((a1 : Int)) rfl rfl rfl (by omega) (by omega)) ?_
    refine AL.rp rfl rfl (rp_move rfl rfl) ?_
    refine AL.rp rfl rfl (rp_mulZ ((a2 : Int)) rfl rfl rfl (by omega) (by omega)) ?_
    (first | (refine AL.rp rfl rfl (rp_index_map Try.underlying29 inf3 rfl rfl rfl rfl (by assumption)) ?_) | (refine AL.rp rfl rfl (rp_index_own Try.underlying29 inf3 rfl rfl rfl rfl (by first | assumption | omega)) ?_) | (refine AL.rp rfl rfl (rd_index_sl Try.underlying29 inf3 rfl rfl rfl rfl (by assumption)) ?_) | (refine AL.rp rfl rfl (rp_index_own Try.underlying29 inf3 rfl rfl rfl (by omega) (by omega)) ?_))
    refine AL.st rfl (st_store_map2 (v := 0) inf3 rfl rfl rfl rfl rfl rfl rfl rfl (by first | assumption | omega)) ?_
    refine AL.nil ?_
    try simp only [thenS, S.put, S.newObj, setL, V.cs, List.length_cons, List.length_nil, List.take_succ_cons, List.take_zero, List.drop_succ_cons, List.drop_zero, List.drop_nil, List.nil_append, List.cons_append, List.append_nil, Nat.zero_add, Nat.reduceAdd, List.map_cons, List.map_nil, List.set_cons_zero, List.set_cons_succ]
    refine ⟨_, ?_, (List.replicate N big).set a2 0, ⟨by simp, fun q x hx => ?_, fun q x hx hb => ?_, fun q x d hx hd => ?_⟩, rfl⟩
    ·exact (Less.of rfl (by repeat (first | exact trivial | refine ⟨⟨_, rfl, Wk.refl _⟩, ?_⟩ | refine ⟨⟨_, rfl, Wk.nil _ _⟩, ?_⟩ | refine ⟨⟨_, rfl, Wk.junk _⟩, ?_⟩)) (by repeat (first | exact trivial | refine ⟨rfl, ?_⟩)) rfl)
    all_goals
     rw [List.getElem?_set] at hx
     by_cases e : a2 = q
     ·subst e
      simp [hpN] at hx
      subst hx
      first | omega | exact .init _ 0 ⟨p, rfl, hae.symm, rfl⟩
     ·rw [if_neg e, List.getElem?_replicate] at hx
      split at hx
      ·simp only [Option.some.injEq] at hx
       subst hx
       first
        | omega
        | (obtain ⟨q2, h2, h3, _⟩ := hd; exact absurd (hae.symm.trans (by rw [h3]; congr 1; omega)) e)
      ·cases hx
   ·skip
    refine AW.seq ?_
    refine AW.region ?_
    (first | (refine AL.rp rfl rfl (rp_field_ref Try.underlying24 rfl rfl rfl inf3 (by decide) rfl) ?_) | (refine AL.rp rfl rfl (rp_field_ad Try.underlying24 rfl rfl rfl inf3 (by decide) rfl) ?_))
    (first | (refine AL.rd rfl rfl (rd_load_ref Try.underlying3 rfl rfl rfl rfl rfl rfl) ?_) | (refine AL.rd rfl rfl (rd_load_ad Try.underlying3 rfl rfl rfl rfl) ?_) | (refine AL.rd rfl rfl (rd_load_map Try.underlying3 rfl rfl rfl rfl rfl rfl (by assumption)) ?_) | (refine AL.rd rfl rfl (rd_load_flat Try.underlying3 rfl rfl rfl rfl rfl rfl (fun _ => rfl) (by assumption) rfl) ?_))
    (first | (refine AL.rp rfl rfl (rp_geqT rfl rfl rfl (by first | assumption | omega | (dsimp only; omega))) ?_) | (refine AL.rp rfl rfl (rp_geqF rfl rfl rfl (by first | assumption | omega | (dsimp only; omega))) ?_) | (refine AL.rp rfl rfl (rp_geq rfl rfl rfl) ?_))
    refine AL.nil ?_
    try simp only [thenS, S.put]
    refine AW.condF rfl ?_
    refine AW.skip ?_
    try simp only [thenS]
    refine ⟨_, ?_, List.replicate N big, ⟨by simp, fun q x hx => ?_, fun q x hx hb => ?_, fun q x d hx hd => ?_⟩, rfl⟩
    ·exact (Less.of rfl (by repeat (first | exact trivial | refine ⟨⟨_, rfl, Wk.refl _⟩, ?_⟩ | refine ⟨⟨_, rfl, Wk.nil _ _⟩, ?_⟩ | refine ⟨⟨_, rfl, Wk.junk _⟩, ?_⟩)) (by repeat (first | exact trivial | refine ⟨rfl, ?_⟩)) rfl)
    all_goals
     rw [List.getElem?_replicate] at hx
     split at hx
     ·simp only [Option.some.injEq] at hx
      subst hx
      first
       | omega
       | (obtain ⟨_, h2, _⟩ := hd; omega)
     ·cases hx
  rintro s' ⟨L0, hL0, rfl⟩
  clear hinilt
  refine AW.seqc (fun s' => s' = ⟨220, [(1, .d (intsD x)), (2, .nil), (3, .b true), (4, .ref 4 0), (9, .i n), (10, .i Wi), (11, .own 36 1 N false)], [(4, ⟨24, [.i st, .d (stsD sts)], false, 0⟩), (36, ⟨3, ((List.range N).map D).map V.n, false, 1⟩)], []⟩) ?_ ?_
  ·refine AW.seq ?_
   refine AW.region ?_
   refine AL.rp rfl rfl (rp_assign rfl rfl) ?_
   refine AL.nil ?_
   try simp only [thenS, S.put]
   refine AW.block ?_
   refine AW.loopN (fun μ s' => ∃ (ag : Bool) (L : List Nat), Snd (gInit st x y) (gEdge sts x y true) N L ∧ (ag = false → L = (List.range N).map D) ∧ μ = (if ag then L.sum + 1 else 0) ∧ s' = ⟨220, [(1, .d (intsD x)), (2, .nil), (3, .b true), (4, .ref 4 0), (9, .i n), (10, .i Wi), (11, .own 36 1 N false), (13, .b ag)], [(4, ⟨24, [.i st, .d (stsD sts)], false, 0⟩), (36, ⟨3, L.map V.n, false, 1⟩)], []⟩) ⟨_, _, ?_, true, L0, hL0, (fun h => by cases h), rfl, rfl⟩ ?_
   ·exact (Less.of rfl (by repeat (first | exact trivial | refine ⟨⟨_, rfl, Wk.refl _⟩, ?_⟩ | refine ⟨⟨_, rfl, Wk.nil _ _⟩, ?_⟩ | refine ⟨⟨_, rfl, Wk.junk _⟩, ?_⟩)) (by repeat (first | exact trivial | refine ⟨rfl, ?_⟩)) rfl)
   clear hL0
   rintro μ s' ⟨ag, L1, hL1, hag, hμ, rfl⟩
   have hCh := hS L1 hL1
   obtain ⟨S0, hS0⟩ : ∃ S0, L1.sum = S0 := ⟨_, rfl⟩
   rw [hS0] at hCh
   cases ag with
   | false =>
    obtain rfl := hag rfl
    refine AW.seq ?_
    refine AW.seq ?_
    refine AW.region ?_
    refine AL.rp rfl rfl (rp_move rfl rfl) ?_
    refine AL.nil ?_
    try simp only [thenS, S.put]
    refine AW.condF rfl ?_
    refine AW.exit ?_
    try simp only [thenS, inBlockS, ↓reduceIte, Nat.reduceEqDiff]
    refine ⟨_, ?_, rfl⟩
    exact (Less.of rfl (by repeat (first | exact trivial | refine ⟨⟨_, rfl, Wk.refl _⟩, ?_⟩ | refine ⟨⟨_, rfl, Wk.nil _ _⟩, ?_⟩ | refine ⟨⟨_, rfl, Wk.junk _⟩, ?_⟩)) (by repeat (first | exact trivial | refine ⟨rfl, ?_⟩)) rfl)
   | true =>
    simp only [if_true, hS0] at hμ
    clear hag hL1 hS0
    refine AW.seq ?_
    refine AW.seq ?_
    refine AW.region ?_
    refine AL.rp rfl rfl (rp_move rfl rfl) ?_
    refine AL.nil ?_
    try simp only [thenS, S.put]
    refine AW.condT rfl ?_
    refine AW.skip ?_
    try simp only [thenS]
    refine AW.block ?_
    refine AW.seq ?_
    refine AW.region ?_
    refine AL.rp rfl rfl (rp_assign rfl rfl) ?_
    refine AL.nil ?_
    try simp only [thenS, S.put]
    refine AW.seq ?_
    refine AW.region ?_
    refine AL.rp rfl rfl (rp_assign rfl rfl) ?_
    refine AL.nil ?_
    try simp only [thenS, S.put]
    refine AW.block ?_
    refine AW.loop (fun s' => ∃ (k : Nat) (ag : Bool) (L : List Nat), k ≤ N ∧ Chp st sts x y true S0 k 0 ag L ∧ s' = ⟨220, [(1, .d (intsD x)), (2, .nil), (3, .b true), (4, .ref 4 0), (9, .i n), (10, .i Wi), (11, .own 36 1 N false), (13, .b ag), (14, .i k)], [(4, ⟨24, [.i st, .d (stsD sts)], false, 0⟩), (36, ⟨3, L.map V.n, false, 1⟩)], []⟩) (fun s' => N - s'.nat 14) ⟨_, ?_, 0, false, L1, by omega, hCh, rfl⟩ ?_
    ·exact (Less.of rfl (by repeat (first | exact trivial | refine ⟨⟨_, rfl, Wk.refl _⟩, ?_⟩ | refine ⟨⟨_, rfl, Wk.nil _ _⟩, ?_⟩ | refine ⟨⟨_, rfl, Wk.junk _⟩, ?_⟩)) (by repeat (first | exact trivial | refine ⟨rfl, ?_⟩)) rfl)
    clear hCh
    rintro s' ⟨k, ag, L, hk, hC, rfl⟩
    have hLl := (hS2 hC).len
    by_cases hlt : k < N
    ·obtain ⟨c, hc⟩ := get_lt hLl hlt
     have hcb0 := (hS2 hC).le k c hc
     by_cases hnone : c = big
     ·have hC2 := hC.none (by rw [← hnone]; exact hc)
      refine AW.seq ?_
      refine AW.seq ?_
      refine AW.region ?_
      refine AL.rp rfl rfl (rp_move rfl rfl) ?_
      refine AL.rp rfl rfl (rp_move rfl rfl) ?_
      (first | (refine AL.rp rfl rfl (rp_len_map Try.underlying29 rfl rfl (by assumption)) ?_) | (refine AL.rp rfl rfl (rp_len_own Try.underlying29 rfl rfl) ?_) | (refine AL.rp rfl rfl (rp_len_sl Try.underlying29 rfl rfl) ?_) | (refine AL.rp rfl rfl (rp_len_nil Try.underlying29 rfl rfl) ?_) | (refine AL.rp rfl rfl (rp_len_str Try.underlying29 rfl rfl) ?_))
      (first | (refine AL.rp rfl rfl (rp_lssT rfl rfl rfl (by first | assumption | omega | (dsimp only; omega))) ?_) | (refine AL.rp rfl rfl (rp_lssF rfl rfl rfl (by first | assumption | omega | (dsimp only; omega))) ?_) | (refine AL.rp rfl rfl (rp_lss rfl rfl rfl) ?_))
      refine AL.nil ?_
      try simp only [thenS, S.put]
      refine AW.condT rfl ?_
      refine AW.skip ?_
      try simp only [thenS]
      refine AW.seq ?_
      refine AW.block ?_
      refine AW.seq ?_
      refine AW.seq ?_
      refine AW.region ?_
      refine AL.rp rfl rfl (rp_move rfl rfl) ?_
      refine AL.rp rfl rfl (rp_move rfl rfl) ?_
      (first | (refine AL.rp rfl rfl (rp_index_map Try.underlying29 inf3 rfl rfl rfl rfl (by assumption)) ?_) | (refine AL.rp rfl rfl (rp_index_own Try.underlying29 inf3 rfl rfl rfl rfl (by first | assumption | omega)) ?_) | (refine AL.rp rfl rfl (rd_index_sl Try.underlying29 inf3 rfl rfl rfl rfl (by assumption)) ?_) | (refine AL.rp rfl rfl (rp_index_own Try.underlying29 inf3 rfl rfl rfl (by omega) (by omega)) ?_))
      (first | (refine AL.rd rfl rfl (rd_load_ref Try.underlying3 rfl rfl rfl rfl rfl rfl) ?_) | (refine AL.rd rfl rfl (rd_load_ad Try.underlying3 rfl rfl rfl rfl) ?_) | (refine AL.rd rfl rfl (rd_load_map Try.underlying3 rfl rfl rfl rfl rfl rfl (by assumption)) ?_) | (refine AL.rd rfl rfl (rd_load_flat Try.underlying3 rfl rfl rfl rfl rfl rfl (fun _ => rfl) (by assumption) rfl) ?_))
      (first | (refine AL.rp rfl rfl (rp_eqlT rfl rfl rfl (by first | assumption | omega | (dsimp only; omega))) ?_) | (refine AL.rp rfl rfl (rp_eqlF rfl rfl rfl (by first | assumption | omega | (dsimp only; omega))) ?_) | (refine AL.rp rfl rfl (rp_eql rfl rfl rfl) ?_))
      refine AL.nil ?_
      try simp only [thenS, S.put]
      refine AW.condT rfl ?_
      refine AW.exit ?_
      try simp only [thenS, inBlockS, ↓reduceIte, Nat.reduceEqDiff]
      refine AW.region ?_
      refine AL.rp rfl rfl (rp_move rfl rfl) ?_
      refine AL.rp rfl rfl (rp_add rfl rfl rfl (by first | omega | (dsimp only; omega))) ?_
      refine AL.rp rfl rfl (rp_assign rfl rfl) ?_
      refine AL.nil ?_
      try simp only [thenS, S.put]
      refine ⟨_, ?_, ⟨k + 1, ag, L, by omega, hC2, rfl⟩, ?_⟩
      ·exact (Less.of rfl (by repeat (first | exact trivial | refine ⟨⟨_, rfl, Wk.refl _⟩, ?_⟩ | refine ⟨⟨_, rfl, Wk.nil _ _⟩, ?_⟩ | refine ⟨⟨_, rfl, Wk.junk _⟩, ?_⟩)) (by repeat (first | exact trivial | refine ⟨rfl, ?_⟩)) rfl)
      ·simp [S.nat, fnd]; omega
     ·have hcb : c < big := by omega
      have hqn := hdec k hlt
      obtain ⟨s, hs⟩ := get_lt hn hqn
      have hs0 : sts[k / (y.length + 1) / (x.length + 1)]? = some s := by rw [hX, hY]; exact hs
      have hI0 := Nat.mod_lt (k / (Y + 1)) (show 0 < X + 1 by omega)
      have hJ0 := Nat.mod_lt k (show 0 < Y + 1 by omega)
      have hIe : k / (y.length + 1) % (x.length + 1) = k / (Y + 1) % (X + 1) := by rw [hX, hY]
      have hJe : k % (y.length + 1) = k % (Y + 1) := by rw [hY]
      obtain ⟨kd, hkd⟩ : ∃ a, k / (Y + 1) = a := ⟨_, rfl⟩
      rw [hkd] at hqn hs hI0 hIe
      obtain ⟨q, hq⟩ : ∃ a, kd / (X + 1) = a := ⟨_, rfl⟩
      obtain ⟨I, hI⟩ : ∃ a, kd % (X + 1) = a := ⟨_, rfl⟩
      obtain ⟨J, hJ⟩ : ∃ a, k % (Y + 1) = a := ⟨_, rfl⟩
      rw [hq] at hqn hs
      rw [hI] at hI0 hIe
      rw [hJ] at hJ0 hJe
      have hkdi : (k : Int) / Wi = (kd : Int) := by rw [← hkd, hWi]; simp
      have hqi : (kd : Int) / ((X : Int) + 1) = (q : Int) := by rw [← hq]; simp
      have hIi : (kd : Int) % ((X : Int) + 1) = (I : Int) := by rw [← hI]; simp
      have hJi : (k : Int) % Wi = (J : Int) := by rw [← hJ, hWi]; simp
      have hkdb : kd ≤ k := by rw [← hkd]; exact Nat.div_le_self _ _
      clear hkd hq hI hJ
      have hla4 := hal4 s (List.mem_of_getElem? hs)
      obtain ⟨la, hla⟩ : ∃ n, s.arcs.length = n := ⟨_, rfl⟩
      rw [hla] at hla4
      have hnext : ∀ {ag L}, Chp st sts x y true S0 k la ag L → Chp st sts x y true S0 (k + 1) 0 ag L := fun h => h.next hs0 (by omega)
      have hfitx := fun a => am_fits x I a (by omega) (by omega)
      refine AW.seq ?_
      refine AW.seq ?_
      refine AW.region ?_
      refine AL.rp rfl rfl (rp_move rfl rfl) ?_
      refine AL.rp rfl rfl (rp_move rfl rfl) ?_
      (first | (refine AL.rp rfl rfl (rp_len_map Try.underlying29 rfl rfl (by assumption)) ?_) | (refine AL.rp rfl rfl (rp_len_own Try.underlying29 rfl rfl) ?_) | (refine AL.rp rfl rfl (rp_len_sl Try.underlying29 rfl rfl) ?_) | (refine AL.rp rfl rfl (rp_len_nil Try.underlying29 rfl rfl) ?_) | (refine AL.rp rfl rfl (rp_len_str Try.underlying29 rfl rfl) ?_))
      (first | (refine AL.rp rfl rfl (rp_lssT rfl rfl rfl (by first | assumption | omega | (dsimp only; omega))) ?_) | (refine AL.rp rfl rfl (rp_lssF rfl rfl rfl (by first | assumption | omega | (dsimp only; omega))) ?_) | (refine AL.rp rfl rfl (rp_lss rfl rfl rfl) ?_))
      refine AL.nil ?_
      try simp only [thenS, S.put]
      refine AW.condT rfl ?_
      refine AW.skip ?_
      try simp only [thenS]
      refine AW.seq ?_
      refine AW.block ?_
      refine AW.seq ?_
      refine AW.seq ?_
      refine AW.region ?_
      refine AL.rp rfl rfl (rp_move rfl rfl) ?_
      refine AL.rp rfl rfl (rp_move rfl rfl) ?_
      (first | (refine AL.rp rfl rfl (rp_index_map Try.underlying29 inf3 rfl rfl rfl rfl (by assumption)) ?_) | (refine AL.rp rfl rfl (rp_index_own Try.underlying29 inf3 rfl rfl rfl rfl (by first | assumption | omega)) ?_) | (refine AL.rp rfl rfl (rd_index_sl Try.underlying29 inf3 rfl rfl rfl rfl (by assumption)) ?_) | (refine AL.rp rfl rfl (rp_index_own Try.underlying29 inf3 rfl rfl rfl (by omega) (by omega)) ?_))
      (first | (refine AL.rd rfl rfl (rd_load_ref Try.underlying3 rfl rfl rfl rfl rfl rfl) ?_) | (refine AL.rd rfl rfl (rd_load_ad Try.underlying3 rfl rfl rfl rfl) ?_) | (refine AL.rd rfl rfl (rd_load_map Try.underlying3 rfl rfl rfl rfl rfl rfl (by assumption)) ?_) | (refine AL.rd rfl rfl (rd_load_flat Try.underlying3 rfl rfl rfl rfl rfl rfl (fun _ => rfl) (by assumption) rfl) ?_))
      (first | (refine AL.rp rfl rfl (rp_eqlT rfl rfl rfl (by first | assumption | omega | (dsimp only; omega))) ?_) | (refine AL.rp rfl rfl (rp_eqlF rfl rfl rfl (by first | assumption | omega | (dsimp only; omega))) ?_) | (refine AL.rp rfl rfl (rp_eql rfl rfl rfl) ?_))
      refine AL.nil ?_
      try simp only [thenS, S.put]
      refine AW.condF rfl ?_
      refine AW.skip ?_
      try simp only [thenS]
      refine AW.seq ?_
      refine AW.draw [(0, true), (1, true), (2, true), (3, true), (4, true), (5, true), (6, true), (7, true), (8, true), (9, true), (10, true), (11, true), (12, true)] (fun i => !([] : List Nat).contains i) 13 (by kernel_rfl) (by kernel_rfl) rfl (by kernel_rfl) ?_
      (first | (refine AD1.rp rfl rfl rfl (fun _ _ h => h) (rp_field_ref Try.underlying24 rfl rfl rfl inf22 (by decide) rfl) ?_) | (refine AD1.rp rfl rfl rfl (fun _ _ h => h) (rp_field_ad Try.underlying24 rfl rfl rfl inf22 (by decide) rfl) ?_))
      (first | (refine AD1.rd rfl rfl rfl (fun _ _ h => h) (rd_load_ref Try.underlying22 rfl rfl rfl rfl rfl rfl) ?_) | (refine AD1.rd rfl rfl rfl (fun _ _ h => h) (rd_load_ad Try.underlying22 rfl rfl rfl rfl) ?_) | (refine AD1.rd rfl rfl rfl (fun _ _ h => h) (rd_load_map Try.underlying22 rfl rfl rfl rfl rfl rfl (by assumption)) ?_) | (refine AD1.rd rfl rfl rfl (fun _ _ h => h) (rd_load_flat Try.underlying22 rfl rfl rfl rfl rfl rfl (fun _ => rfl) (by assumption) rfl) ?_))
      refine AD1.rp rfl rfl rfl (fun _ _ h => h) (rp_move rfl rfl) ?_
      refine AD1.rp rfl rfl rfl (fun _ _ h => h) (rp_move rfl rfl) ?_
      refine AD1.rp rfl rfl rfl (fun _ _ h => h) (rp_quoZ ((kd : Int)) rfl rfl rfl (by omega) (by omega)) ?_
      refine AD1.rp rfl rfl rfl (fun _ _ h => h) (rp_move rfl rfl) ?_
      (first | (refine AD1.rp rfl rfl rfl (fun _ _ h => h) (rp_len_map Try.underlying29 rfl rfl (by assumption)) ?_) | (refine AD1.rp rfl rfl rfl (fun _ _ h => h) (rp_len_own Try.underlying29 rfl rfl) ?_) | (refine AD1.rp rfl rfl rfl (fun _ _ h => h) (rp_len_sl Try.underlying29 rfl rfl) ?_) | (refine AD1.rp rfl rfl rfl (fun _ _ h => h) (rp_len_nil Try.underlying29 rfl rfl) ?_) | (refine AD1.rp rfl rfl rfl (fun _ _ h => h) (rp_len_str Try.underlying29 rfl rfl) ?_))
      refine AD1.rp rfl rfl rfl (fun _ _ h => h) (rp_add rfl rfl rfl (by first | omega | (dsimp only; omega))) ?_
      refine AD1.rp rfl rfl rfl (fun _ _ h => h) (rp_quoZ ((q : Int)) rfl rfl rfl (by omega) (by omega)) ?_
      (first | (refine AD1.rp rfl rfl rfl (fun _ _ h => h) (rp_index_map Try.underlying22 inf69 rfl rfl rfl rfl (by assumption)) ?_) | (refine AD1.rp rfl rfl rfl (fun _ _ h => h) (rp_index_own Try.underlying22 inf69 rfl rfl rfl rfl (by first | assumption | omega)) ?_) | (refine AD1.rp rfl rfl rfl (fun _ _ h => h) (rd_index_sl Try.underlying22 inf69 rfl rfl rfl rfl (by assumption)) ?_) | (refine AD1.rp rfl rfl rfl (fun _ _ h => h) (rp_index_own Try.underlying22 inf69 rfl rfl rfl (by omega) (by omega)) ?_))
      (first | (refine AD1.rp rfl rfl rfl (fun _ _ h => h) (rp_field_ref Try.underlying69 rfl rfl rfl inf67 (by decide) rfl) ?_) | (refine AD1.rp rfl rfl rfl (fun _ _ h => h) (rp_field_ad Try.underlying69 rfl rfl rfl inf67 (by decide) rfl) ?_))
      (first | (refine AD1.rd rfl rfl rfl (fun _ _ h => h) (rd_load_ref Try.underlying67 rfl rfl rfl rfl rfl rfl) ?_) | (refine AD1.rd rfl rfl rfl (fun _ _ h => h) (rd_load_ad Try.underlying67 rfl rfl rfl rfl) ?_) | (refine AD1.rd rfl rfl rfl (fun _ _ h => h) (rd_load_map Try.underlying67 rfl rfl rfl rfl rfl rfl (by assumption)) ?_) | (refine AD1.rd rfl rfl rfl (fun _ _ h => h) (rd_load_flat Try.underlying67 rfl rfl rfl rfl rfl rfl (fun _ => rfl) (by assumption) rfl) ?_))
      refine AD1.rp rfl rfl rfl (fun _ _ h => h) (rp_assign rfl rfl) ?_
      refine AD1.nil ?_
      try simp only [thenS, S.put]
      refine AW.seq ?_
      refine AW.region ?_
      refine AL.rp rfl rfl (rp_assign rfl rfl) ?_
      refine AL.nil ?_
      try simp only [thenS, S.put]
      refine AW.block ?_
      refine AW.loop (fun s' => ∃ (T : Nat) (ag : Bool) (L : List Nat), T ≤ la ∧ Chp st sts x y true S0 k T ag L ∧ (∃ c, L[k]? = some c ∧ c < big) ∧ s' = ⟨220, [(1, .d (intsD x)), (2, .nil), (3, .b true), (4, .ref 4 0), (9, .i n), (10, .i Wi), (11, .own 36 1 N false), (13, .b ag), (14, .i k), (15, .d (arsD s.arcs)), (16, .i T)], [(4, ⟨24, [.i st, .d (stsD sts)], false, 0⟩), (36, ⟨3, L.map V.n, false, 1⟩)], []⟩) (fun s' => la - s'.nat 16) ⟨_, ?_, 0, ag, L, by omega, hC, ⟨c, hc, hcb⟩, rfl⟩ ?_
      ·exact (Less.of rfl (by repeat (first | exact trivial | refine ⟨⟨_, rfl, Wk.refl _⟩, ?_⟩ | refine ⟨⟨_, rfl, Wk.nil _ _⟩, ?_⟩ | refine ⟨⟨_, rfl, Wk.junk _⟩, ?_⟩)) (by repeat (first | exact trivial | refine ⟨rfl, ?_⟩)) rfl)
      clear hC hLl hc hcb hcb0 hnone c
      rintro s' ⟨T, ag, L, hT, hC, ⟨c, hc, hcb⟩, rfl⟩
      have hLl := (hS2 hC).len
      by_cases hTl : T < la
      ·obtain ⟨a, ha⟩ := get_lt hla hTl
       have hat := hzt s (List.mem_of_getElem? hs) a (List.mem_of_getElem? ha)
       have haw := hzw s (List.mem_of_getElem? hs) a (List.mem_of_getElem? ha)
       have hno := fun h => hC.arc_no hs0 ha h
       have hge := fun {i j p w c b} h1 h2 h3 h4 h5 h6 h7 => hC.arc_ge (i := i) (j := j) (p := p) (w := w) (c := c) (b := b) hs0 ha h1 h2 h3 h4 h5 h6 h7
       have hlt2 := fun {i j p w c b} h1 h2 h3 h4 h5 h6 h7 h8 => hC.arc_lt (i := i) (j := j) (p := p) (w := w) (c := c) (b := b) hs0 ha h1 h2 h3 h4 h5 h6 h7 h8
       rw [hIe, hJe] at hno hge hlt2
       obtain ⟨ai, ao, aw, at'⟩ := a
       simp only at hat haw hno hge hlt2
       obtain ⟨tt, rfl⟩ : ∃ p : Nat, at' = p := ⟨at'.toNat, by omega⟩
       obtain ⟨w, rfl⟩ : ∃ w : Nat, aw = w := ⟨aw.toNat, by omega⟩
       have htn : tt < n := by omega
       simp only [Int.toNat_natCast] at hge hlt2
       have hfx := hfitx ai
       cases hfi : fitN x I ai with
       | none =>
        have hC2 := hno (.inl hfi)
        have he : fitsI x I ai = -1 := by unfold fitsI; rw [hfi]
        rw [he] at hfx
        refine AW.seq ?_
        refine AW.seq ?_
        refine AW.region ?_
        refine AL.rp rfl rfl (rp_move rfl rfl) ?_
        refine AL.rp rfl rfl (rp_move rfl rfl) ?_
        (first | (refine AL.rp rfl rfl (rp_len_map Try.underlying67 rfl rfl (by assumption)) ?_) | (refine AL.rp rfl rfl (rp_len_own Try.underlying67 rfl rfl) ?_) | (refine AL.rp rfl rfl (rp_len_sl Try.underlying67 rfl rfl) ?_) | (refine AL.rp rfl rfl (rp_len_nil Try.underlying67 rfl rfl) ?_) | (refine AL.rp rfl rfl (rp_len_str Try.underlying67 rfl rfl) ?_))
        (first | (refine AL.rp rfl rfl (rp_lssT rfl rfl rfl (by first | assumption | omega | (dsimp only; omega))) ?_) | (refine AL.rp rfl rfl (rp_lssF rfl rfl rfl (by first | assumption | omega | (dsimp only; omega))) ?_) | (refine AL.rp rfl rfl (rp_lss rfl rfl rfl) ?_))
        refine AL.nil ?_
        try simp only [thenS, S.put]
        refine AW.condT rfl ?_
        refine AW.skip ?_
        try simp only [thenS]
        refine AW.seq ?_
        refine AW.block ?_
        refine AW.seq ?_
        refine AW.draw [(0, true), (1, true), (2, true), (3, true), (4, true), (5, true), (6, true), (7, true), (8, true), (9, true), (10, true), (11, true), (12, true), (13, false), (14, false)] (fun i => !([] : List Nat).contains i) 15 (by kernel_rfl) (by kernel_rfl) rfl (by kernel_rfl) ?_
        refine AD1.rp rfl rfl rfl (fun _ _ h => h) (rp_move rfl rfl) ?_
        refine AD1.rp rfl rfl rfl (fun _ _ h => h) (rp_move rfl rfl) ?_
        refine AD1.rp rfl rfl rfl (fun _ _ h => h) (rp_move rfl rfl) ?_
        refine AD1.rp rfl rfl rfl (fun _ _ h => h) (rp_quoZ ((kd : Int)) rfl rfl rfl (by omega) (by omega)) ?_
        refine AD1.rp rfl rfl rfl (fun _ _ h => h) (rp_move rfl rfl) ?_
        (first | (refine AD1.rp rfl rfl rfl (fun _ _ h => h) (rp_len_map Try.underlying29 rfl rfl (by assumption)) ?_) | (refine AD1.rp rfl rfl rfl (fun _ _ h => h) (rp_len_own Try.underlying29 rfl rfl) ?_) | (refine AD1.rp rfl rfl rfl (fun _ _ h => h) (rp_len_sl Try.underlying29 rfl rfl) ?_) | (refine AD1.rp rfl rfl rfl (fun _ _ h => h) (rp_len_nil Try.underlying29 rfl rfl) ?_) | (refine AD1.rp rfl rfl rfl (fun _ _ h => h) (rp_len_str Try.underlying29 rfl rfl) ?_))
        refine AD1.rp rfl rfl rfl (fun _ _ h => h) (rp_add rfl rfl rfl (by first | omega | (dsimp only; omega))) ?_
        refine AD1.rp rfl rfl rfl (fun _ _ h => h) (rp_remZ ((I : Int)) rfl rfl rfl (by omega) (by omega)) ?_
        refine AD1.rp rfl rfl rfl (fun _ _ h => h) (rp_move rfl rfl) ?_
        refine AD1.rp rfl rfl rfl (fun _ _ h => h) (rp_move rfl rfl) ?_
        (first | (refine AD1.rp rfl rfl rfl (fun _ _ h => h) (rp_index_map Try.underlying67 inf79 rfl rfl rfl rfl (by assumption)) ?_) | (refine AD1.rp rfl rfl rfl (fun _ _ h => h) (rp_index_own Try.underlying67 inf79 rfl rfl rfl rfl (by first | assumption | omega)) ?_) | (refine AD1.rp rfl rfl rfl (fun _ _ h => h) (rd_index_sl Try.underlying67 inf79 rfl rfl rfl rfl (by assumption)) ?_) | (refine AD1.rp rfl rfl rfl (fun _ _ h => h) (rp_index_own Try.underlying67 inf79 rfl rfl rfl (by omega) (by omega)) ?_))
        (first | (refine AD1.rp rfl rfl rfl (fun _ _ h => h) (rp_field_ref Try.underlying79 rfl rfl rfl inf3 (by decide) rfl) ?_) | (refine AD1.rp rfl rfl rfl (fun _ _ h => h) (rp_field_ad Try.underlying79 rfl rfl rfl inf3 (by decide) rfl) ?_))
        (first | (refine AD1.rd rfl rfl rfl (fun _ _ h => h) (rd_load_ref Try.underlying3 rfl rfl rfl rfl rfl rfl) ?_) | (refine AD1.rd rfl rfl rfl (fun _ _ h => h) (rd_load_ad Try.underlying3 rfl rfl rfl rfl) ?_) | (refine AD1.rd rfl rfl rfl (fun _ _ h => h) (rd_load_map Try.underlying3 rfl rfl rfl rfl rfl rfl (by assumption)) ?_) | (refine AD1.rd rfl rfl rfl (fun _ _ h => h) (rd_load_flat Try.underlying3 rfl rfl rfl rfl rfl rfl (fun _ => rfl) (by assumption) rfl) ?_))
        refine AD1.go ?_
        refine AD2.call (post := ?pc48) rfl rfl (sm_call (args := [_, _, _]) ?hc48 ⟨Try.func111, rfl, rfl, rfl, rfl⟩ rfl rfl rfl rfl) ?_
        case hc48 => exact hfx
        rintro _ rfl -
        try dsimp only
        refine AD2.rp1 rfl rfl rfl (rp_assign rfl rfl) ?_
        refine AD2.nil ?_
        try simp only [thenS, S.put, S.newObj, setL, V.cs, List.length_cons, List.length_nil, List.take_succ_cons, List.take_zero, List.drop_succ_cons, List.drop_zero, List.drop_nil, List.nil_append, List.cons_append, List.append_nil, Nat.zero_add, Nat.reduceAdd, List.map_cons, List.map_nil, List.set_cons_zero, List.set_cons_succ]
        refine AW.seq ?_
        refine AW.region ?_
        refine AL.rp rfl rfl (rp_move rfl rfl) ?_
        refine AL.rp rfl rfl (rp_move rfl rfl) ?_
        refine AL.rp rfl rfl (rp_remZ ((J : Int)) rfl rfl rfl (by omega) (by omega)) ?_
        refine AL.rp rfl rfl (rp_assign rfl rfl) ?_
        refine AL.nil ?_
        try simp only [thenS, S.put]
        refine AW.seq ?_
        refine AW.seq ?_
        refine AW.region ?_
        refine AL.rp rfl rfl (rp_move rfl rfl) ?_
        refine AL.rp rfl rfl (rp_not rfl rfl) ?_
        refine AL.nil ?_
        try simp only [thenS, S.put]
        refine AW.condF rfl ?_
        refine AW.skip ?_
        try simp only [thenS]
        refine AW.seq ?_
        refine AW.seq ?_
        refine AW.region ?_
        refine AL.rp rfl rfl (rp_move rfl rfl) ?_
        (first | (refine AL.rp rfl rfl (rp_lssT rfl rfl rfl (by first | assumption | omega | (dsimp only; omega))) ?_) | (refine AL.rp rfl rfl (rp_lssF rfl rfl rfl (by first | assumption | omega | (dsimp only; omega))) ?_) | (refine AL.rp rfl rfl (rp_lss rfl rfl rfl) ?_))
        refine AL.rp rfl rfl (rp_move rfl rfl) ?_
        (first | (refine AL.noV rfl rfl rfl rfl ?_) | (refine AL.noU rfl ⟨_, rfl, rfl⟩ rfl ?_) | (refine AL.rpy rfl rfl rfl (rp_move rfl rfl) ?_))
        (first | (refine AL.noV rfl rfl rfl rfl ?_) | (refine AL.noU rfl ⟨_, rfl, rfl⟩ rfl ?_) | (refine AL.rpy rfl rfl rfl (rp_lssT rfl rfl rfl (by first | assumption | omega | (dsimp only; omega))) ?_) | (refine AL.rpy rfl rfl rfl (rp_lssF rfl rfl rfl (by first | assumption | omega | (dsimp only; omega))) ?_) | (refine AL.rpy rfl rfl rfl (rp_lss rfl rfl rfl) ?_))
        refine AL.rp rfl rfl (rp_pick rfl rfl rfl) ?_
        refine AL.nil ?_
        try simp only [thenS, S.put]
        refine AW.condT rfl ?_
        refine AW.exit ?_
        try simp only [thenS, inBlockS, ↓reduceIte, Nat.reduceEqDiff]
        refine AW.region ?_
        refine AL.rp rfl rfl (rp_move rfl rfl) ?_
        refine AL.rp rfl rfl (rp_add rfl rfl rfl (by first | omega | (dsimp only; omega))) ?_
        refine AL.rp rfl rfl (rp_assign rfl rfl) ?_
        refine AL.nil ?_
        try simp only [thenS, S.put]
        refine ⟨_, ?_, ⟨T + 1, ag, L, by omega, hC2, ⟨c, hc, hcb⟩, rfl⟩, ?_⟩
        ·exact (Less.of rfl (by repeat (first | exact trivial | refine ⟨⟨_, rfl, Wk.refl _⟩, ?_⟩ | refine ⟨⟨_, rfl, Wk.nil _ _⟩, ?_⟩ | refine ⟨⟨_, rfl, Wk.junk _⟩, ?_⟩)) (by repeat (first | exact trivial | refine ⟨rfl, ?_⟩)) rfl)
        ·simp [S.nat, fnd]; omega
       | some i' =>
        have hi'X := fitN_le hfi (by omega)
        have he : fitsI x I ai = (i' : Int) := by unfold fitsI; rw [hfi]
        rw [he] at hfx
        obtain ⟨j', hj'⟩ : ∃ j', J = j' := ⟨_, rfl⟩
        have hfj : fitJ true y J ao = some j' := by unfold fitJ; rw [if_pos rfl, hj']
        have hpN := htolt htn (show i' ≤ X by omega) (show j' ≤ Y by omega)
        have hpE := hixE tt i' j'
        obtain ⟨p, hp⟩ : ∃ p, ixW x y tt i' j' = p := ⟨_, rfl⟩
        rw [hp] at hpN hpE
        obtain ⟨a1, ha1⟩ : ∃ a, tt * (X + 1) = a := ⟨_, rfl⟩
        obtain ⟨a2, ha2⟩ : ∃ a, (a1 + i') * (Y + 1) = a := ⟨_, rfl⟩
        have ha1i : (tt : Int) * ((X : Int) + 1) = (a1 : Int) := by rw [← ha1]; push_cast; rfl
        have ha2i : ((a1 : Int) + (i' : Int)) * Wi = (a2 : Int) := by rw [← ha2, hWi]; push_cast; rfl
        rw [ha1, ha2] at hpE
        have ha1b : a1 + i' ≤ a2 := by rw [← ha2]; exact Nat.le_mul_of_pos_right _ (by omega)
        obtain ⟨b, hb⟩ := get_lt hLl hpN
        have hbb := (hS2 hC).le p b hb
        have hpL : p < L.length := by omega
        by_cases hless : c + w < b
        ·have hC2 := hlt2 hfi hfj hp rfl hc hcb hb hless
         have hc2 : ∃ c', (L.set p (c + w))[k]? = some c' ∧ c' < big := by
          by_cases e : p = k
          ·subst e; exact ⟨_, List.getElem?_set_self hpL, by omega⟩
          ·exact ⟨c, by rw [List.getElem?_set_ne e]; exact hc, hcb⟩
         refine AW.seq ?_
         refine AW.seq ?_
         refine AW.region ?_
         refine AL.rp rfl rfl (rp_move rfl rfl) ?_
         refine AL.rp rfl rfl (rp_move rfl rfl) ?_
         (first | (refine AL.rp rfl rfl (rp_len_map Try.underlying67 rfl rfl (by assumption)) ?_) | (refine AL.rp rfl rfl (rp_len_own Try.underlying67 rfl rfl) ?_) | (refine AL.rp rfl rfl (rp_len_sl Try.underlying67 rfl rfl) ?_) | (refine AL.rp rfl rfl (rp_len_nil Try.underlying67 rfl rfl) ?_) | (refine AL.rp rfl rfl (rp_len_str Try.underlying67 rfl rfl) ?_))
         (first | (refine AL.rp rfl rfl (rp_lssT rfl rfl rfl (by first | assumption | omega | (dsimp only; omega))) ?_) | (refine AL.rp rfl rfl (rp_lssF rfl rfl rfl (by first | assumption | omega | (dsimp only; omega))) ?_) | (refine AL.rp rfl rfl (rp_lss rfl rfl rfl) ?_))
         refine AL.nil ?_
         try simp only [thenS, S.put]
         refine AW.condT rfl ?_
         refine AW.skip ?_
         try simp only [thenS]
         refine AW.seq ?_
         refine AW.block ?_
         refine AW.seq ?_
         refine AW.draw [(0, true), (1, true), (2, true), (3, true), (4, true), (5, true), (6, true), (7, true), (8, true), (9, true), (10, true), (11, true), (12, true), (13, false), (14, false)] (fun i => !([] : List Nat).contains i) 15 (by kernel_rfl) (by kernel_rfl) rfl (by kernel_rfl) ?_
         refine AD1.rp rfl rfl rfl (fun _ _ h => h) (rp_move rfl rfl) ?_
         refine AD1.rp rfl rfl rfl (fun _ _ h => h) (rp_move rfl rfl) ?_
         refine AD1.rp rfl rfl rfl (fun _ _ h => h) (rp_move rfl rfl) ?_
         refine AD1.rp rfl rfl rfl (fun _ _ h => h) (rp_quoZ ((kd : Int)) rfl rfl rfl (by omega) (by omega)) ?_
         refine AD1.rp rfl rfl rfl (fun _ _ h => h) (rp_move rfl rfl) ?_
         (first | (refine AD1.rp rfl rfl rfl (fun _ _ h => h) (rp_len_map Try.underlying29 rfl rfl (by assumption)) ?_) | (refine AD1.rp rfl rfl rfl (fun _ _ h => h) (rp_len_own Try.underlying29 rfl rfl) ?_) | (refine AD1.rp rfl rfl rfl (fun _ _ h => h) (rp_len_sl Try.underlying29 rfl rfl) ?_) | (refine AD1.rp rfl rfl rfl (fun _ _ h => h) (rp_len_nil Try.underlying29 rfl rfl) ?_) | (refine AD1.rp rfl rfl rfl (fun _ _ h => h) (rp_len_str Try.underlying29 rfl rfl) ?_))
         refine AD1.rp rfl rfl rfl (fun _ _ h => h) (rp_add rfl rfl rfl (by first | omega | (dsimp only; omega))) ?_
         refine AD1.rp rfl rfl rfl (fun _ _ h => h) (rp_remZ ((I : Int)) rfl rfl rfl (by omega) (by omega)) ?_
         refine AD1.rp rfl rfl rfl (fun _ _ h => h) (rp_move rfl rfl) ?_
         refine AD1.rp rfl rfl rfl (fun _ _ h => h) (rp_move rfl rfl) ?_
         (first | (refine AD1.rp rfl rfl rfl (fun _ _ h => h) (rp_index_map Try.underlying67 inf79 rfl rfl rfl rfl (by assumption)) ?_) | (refine AD1.rp rfl rfl rfl (fun _ _ h => h) (rp_index_own Try.underlying67 inf79 rfl rfl rfl rfl (by first | assumption | omega)) ?_) | (refine AD1.rp rfl rfl rfl (fun _ _ h => h) (rd_index_sl Try.underlying67 inf79 rfl rfl rfl rfl (by assumption)) ?_) | (refine AD1.rp rfl rfl rfl (fun _ _ h => h) (rp_index_own Try.underlying67 inf79 rfl rfl rfl (by omega) (by omega)) ?_))
         (first | (refine AD1.rp rfl rfl rfl (fun _ _ h => h) (rp_field_ref Try.underlying79 rfl rfl rfl inf3 (by decide) rfl) ?_) | (refine AD1.rp rfl rfl rfl (fun _ _ h => h) (rp_field_ad Try.underlying79 rfl rfl rfl inf3 (by decide) rfl) ?_))
         (first | (refine AD1.rd rfl rfl rfl (fun _ _ h => h) (rd_load_ref Try.underlying3 rfl rfl rfl rfl rfl rfl) ?_) | (refine AD1.rd rfl rfl rfl (fun _ _ h => h) (rd_load_ad Try.underlying3 rfl rfl rfl rfl) ?_) | (refine AD1.rd rfl rfl rfl (fun _ _ h => h) (rd_load_map Try.underlying3 rfl rfl rfl rfl rfl rfl (by assumption)) ?_) | (refine AD1.rd rfl rfl rfl (fun _ _ h => h) (rd_load_flat Try.underlying3 rfl rfl rfl rfl rfl rfl (fun _ => rfl) (by assumption) rfl) ?_))
         refine AD1.go ?_
         refine AD2.call (post := ?pc49) rfl rfl (sm_call (args := [_, _, _]) ?hc49 ⟨Try.func111, rfl, rfl, rfl, rfl⟩ rfl rfl rfl rfl) ?_
         case hc49 => exact hfx
         rintro _ rfl -
         try dsimp only
         refine AD2.rp1 rfl rfl rfl (rp_assign rfl rfl) ?_
         refine AD2.nil ?_
         try simp only [thenS, S.put, S.newObj, setL, V.cs, List.length_cons, List.length_nil, List.take_succ_cons, List.take_zero, List.drop_succ_cons, List.drop_zero, List.drop_nil, List.nil_append, List.cons_append, List.append_nil, Nat.zero_add, Nat.reduceAdd, List.map_cons, List.map_nil, List.set_cons_zero, List.set_cons_succ]
         refine AW.seq ?_
         refine AW.region ?_
         refine AL.rp rfl rfl (rp_move rfl rfl) ?_
         refine AL.rp rfl rfl (rp_move rfl rfl) ?_
         refine AL.rp rfl rfl (rp_remZ ((J : Int)) rfl rfl rfl (by omega) (by omega)) ?_
         refine AL.rp rfl rfl (rp_assign rfl rfl) ?_
         refine AL.nil ?_
         try simp only [thenS, S.put]
         refine AW.seq ?_
         refine AW.seq ?_
         refine AW.region ?_
         refine AL.rp rfl rfl (rp_move rfl rfl) ?_
         refine AL.rp rfl rfl (rp_not rfl rfl) ?_
         refine AL.nil ?_
         try simp only [thenS, S.put]
         refine AW.condF rfl ?_
         refine AW.skip ?_
         try simp only [thenS]
         refine AW.seq ?_
         refine AW.seq ?_
         refine AW.region ?_
         refine AL.rp rfl rfl (rp_move rfl rfl) ?_
         (first | (refine AL.rp rfl rfl (rp_lssT rfl rfl rfl (by first | assumption | omega | (dsimp only; omega))) ?_) | (refine AL.rp rfl rfl (rp_lssF rfl rfl rfl (by first | assumption | omega | (dsimp only; omega))) ?_) | (refine AL.rp rfl rfl (rp_lss rfl rfl rfl) ?_))
         refine AL.rp rfl rfl (rp_move rfl rfl) ?_
         (first | (refine AL.noV rfl rfl rfl rfl ?_) | (refine AL.noU rfl ⟨_, rfl, rfl⟩ rfl ?_) | (refine AL.rpy rfl rfl rfl (rp_move rfl rfl) ?_))
         (first | (refine AL.noV rfl rfl rfl rfl ?_) | (refine AL.noU rfl ⟨_, rfl, rfl⟩ rfl ?_) | (refine AL.rpy rfl rfl rfl (rp_lssT rfl rfl rfl (by first | assumption | omega | (dsimp only; omega))) ?_) | (refine AL.rpy rfl rfl rfl (rp_lssF rfl rfl rfl (by first | assumption | omega | (dsimp only; omega))) ?_) | (refine AL.rpy rfl rfl rfl (rp_lss rfl rfl rfl) ?_))
         refine AL.rp rfl rfl (rp_pick rfl rfl rfl) ?_
         refine AL.nil ?_
         try simp only [thenS, S.put]
         refine AW.condF rfl ?_
         refine AW.skip ?_
         try simp only [thenS]
         refine AW.seq ?_
         refine AW.region ?_
         refine AL.rp rfl rfl (rp_move rfl rfl) ?_
         refine AL.rp rfl rfl (rp_move rfl rfl) ?_
         (first | (refine AL.rp rfl rfl (rp_index_map Try.underlying67 inf79 rfl rfl rfl rfl (by assumption)) ?_) | (refine AL.rp rfl rfl (rp_index_own Try.underlying67 inf79 rfl rfl rfl rfl (by first | assumption | omega)) ?_) | (refine AL.rp rfl rfl (rd_index_sl Try.underlying67 inf79 rfl rfl rfl rfl (by assumption)) ?_) | (refine AL.rp rfl rfl (rp_index_own Try.underlying67 inf79 rfl rfl rfl (by omega) (by omega)) ?_))
         (first | (refine AL.rp rfl rfl (rp_field_ref Try.underlying79 rfl rfl rfl inf3 (by decide) rfl) ?_) | (refine AL.rp rfl rfl (rp_field_ad Try.underlying79 rfl rfl rfl inf3 (by decide) rfl) ?_))
         (first | (refine AL.rd rfl rfl (rd_load_ref Try.underlying3 rfl rfl rfl rfl rfl rfl) ?_) | (refine AL.rd rfl rfl (rd_load_ad Try.underlying3 rfl rfl rfl rfl) ?_) | (refine AL.rd rfl rfl (rd_load_map Try.underlying3 rfl rfl rfl rfl rfl rfl (by assumption)) ?_) | (refine AL.rd rfl rfl (rd_load_flat Try.underlying3 rfl rfl rfl rfl rfl rfl (fun _ => rfl) (by assumption) rfl) ?_))
         refine AL.rp rfl rfl (rp_move rfl rfl) ?_
         (first | (refine AL.rp rfl rfl (rp_len_map Try.underlying29 rfl rfl (by assumption)) ?_) | (refine AL.rp rfl rfl (rp_len_own Try.underlying29 rfl rfl) ?_) | (refine AL.rp rfl rfl (rp_len_sl Try.underlying29 rfl rfl) ?_) | (refine AL.rp rfl rfl (rp_len_nil Try.underlying29 rfl rfl) ?_) | (refine AL.rp rfl rfl (rp_len_str Try.underlying29 rfl rfl) ?_))
         refine AL.rp rfl rfl (rp_add rfl rfl rfl (by first | omega | (dsimp only; omega))) ?_
         refine AL.rp rfl rfl (rp_mulZ ((a1 : Int)) rfl rfl rfl (by omega) (by omega)) ?_
         refine AL.rp rfl rfl (rp_move rfl rfl) ?_
         refine AL.rp rfl rfl (rp_add rfl rfl rfl (by first | omega | (dsimp only; omega))) ?_
         refine AL.rp rfl rfl (rp_move rfl rfl) ?_
         refine AL.rp rfl rfl (rp_mulZ ((a2 : Int)) rfl rfl rfl (by omega) (by omega)) ?_
         refine AL.rp rfl rfl (rp_move rfl rfl) ?_
         refine AL.rp rfl rfl (rp_addZ ((p : Int)) rfl rfl rfl (by omega) (by omega)) ?_
         refine AL.rp rfl rfl (rp_assign rfl rfl) ?_
         refine AL.nil ?_
         try simp only [thenS, S.put]
         refine AW.seq ?_
         refine AW.draw [(0, true), (1, true), (2, true), (3, true), (4, true), (5, true), (6, true), (7, true), (8, true), (9, true), (10, true), (11, true), (12, true), (13, true), (14, true)] (fun i => !([] : List Nat).contains i) 15 (by kernel_rfl) (by kernel_rfl) rfl (by kernel_rfl) ?_
         refine AD1.rp rfl rfl rfl (fun _ _ h => h) (rp_move rfl rfl) ?_
         refine AD1.rp rfl rfl rfl (fun _ _ h => h) (rp_move rfl rfl) ?_
         (first | (refine AD1.rp rfl rfl rfl (fun _ _ h => h) (rp_index_map Try.underlying29 inf3 rfl rfl rfl rfl (by assumption)) ?_) | (refine AD1.rp rfl rfl rfl (fun _ _ h => h) (rp_index_own Try.underlying29 inf3 rfl rfl rfl rfl (by first | assumption | omega)) ?_) | (refine AD1.rp rfl rfl rfl (fun _ _ h => h) (rd_index_sl Try.underlying29 inf3 rfl rfl rfl rfl (by assumption)) ?_) | (refine AD1.rp rfl rfl rfl (fun _ _ h => h) (rp_index_own Try.underlying29 inf3 rfl rfl rfl (by omega) (by omega)) ?_))
         (first | (refine AD1.rd rfl rfl rfl (fun _ _ h => h) (rd_load_ref Try.underlying3 rfl rfl rfl rfl rfl rfl) ?_) | (refine AD1.rd rfl rfl rfl (fun _ _ h => h) (rd_load_ad Try.underlying3 rfl rfl rfl rfl) ?_) | (refine AD1.rd rfl rfl rfl (fun _ _ h => h) (rd_load_map Try.underlying3 rfl rfl rfl rfl rfl rfl (by assumption)) ?_) | (refine AD1.rd rfl rfl rfl (fun _ _ h => h) (rd_load_flat Try.underlying3 rfl rfl rfl rfl rfl rfl (fun _ => rfl) (by assumption) rfl) ?_))
         refine AD1.rp rfl rfl rfl (fun _ _ h => h) (rp_move rfl rfl) ?_
         refine AD1.rp rfl rfl rfl (fun _ _ h => h) (rp_move rfl rfl) ?_
         (first | (refine AD1.rp rfl rfl rfl (fun _ _ h => h) (rp_index_map Try.underlying67 inf79 rfl rfl rfl rfl (by assumption)) ?_) | (refine AD1.rp rfl rfl rfl (fun _ _ h => h) (rp_index_own Try.underlying67 inf79 rfl rfl rfl rfl (by first | assumption | omega)) ?_) | (refine AD1.rp rfl rfl rfl (fun _ _ h => h) (rd_index_sl Try.underlying67 inf79 rfl rfl rfl rfl (by assumption)) ?_) | (refine AD1.rp rfl rfl rfl (fun _ _ h => h) (rp_index_own Try.underlying67 inf79 rfl rfl rfl (by omega) (by omega)) ?_))
         (first | (refine AD1.rp rfl rfl rfl (fun _ _ h => h) (rp_field_ref Try.underlying79 rfl rfl rfl inf3 (by decide) rfl) ?_) | (refine AD1.rp rfl rfl rfl (fun _ _ h => h) (rp_field_ad Try.underlying79 rfl rfl rfl inf3 (by decide) rfl) ?_))
         (first | (refine AD1.rd rfl rfl rfl (fun _ _ h => h) (rd_load_ref Try.underlying3 rfl rfl rfl rfl rfl rfl) ?_) | (refine AD1.rd rfl rfl rfl (fun _ _ h => h) (rd_load_ad Try.underlying3 rfl rfl rfl rfl) ?_) | (refine AD1.rd rfl rfl rfl (fun _ _ h => h) (rd_load_map Try.underlying3 rfl rfl rfl rfl rfl rfl (by assumption)) ?_) | (refine AD1.rd rfl rfl rfl (fun _ _ h => h) (rd_load_flat Try.underlying3 rfl rfl rfl rfl rfl rfl (fun _ => rfl) (by assumption) rfl) ?_))
         refine AD1.rp rfl rfl rfl (fun _ _ h => h) (rp_add rfl rfl rfl (by first | omega | (dsimp only; omega))) ?_
         refine AD1.rp rfl rfl rfl (fun _ _ h => h) (rp_move rfl rfl) ?_
         refine AD1.rp rfl rfl rfl (fun _ _ h => h) (rp_move rfl rfl) ?_
         (first | (refine AD1.rp rfl rfl rfl (fun _ _ h => h) (rp_index_map Try.underlying29 inf3 rfl rfl rfl rfl (by assumption)) ?_) | (refine AD1.rp rfl rfl rfl (fun _ _ h => h) (rp_index_own Try.underlying29 inf3 rfl rfl rfl rfl (by first | assumption | omega)) ?_) | (refine AD1.rp rfl rfl rfl (fun _ _ h => h) (rd_index_sl Try.underlying29 inf3 rfl rfl rfl rfl (by assumption)) ?_) | (refine AD1.rp rfl rfl rfl (fun _ _ h => h) (rp_index_own Try.underlying29 inf3 rfl rfl rfl (by omega) (by omega)) ?_))
         (first | (refine AD1.rd rfl rfl rfl (fun _ _ h => h) (rd_load_ref Try.underlying3 rfl rfl rfl rfl rfl rfl) ?_) | (refine AD1.rd rfl rfl rfl (fun _ _ h => h) (rd_load_ad Try.underlying3 rfl rfl rfl rfl) ?_) | (refine AD1.rd rfl rfl rfl (fun _ _ h => h) (rd_load_map Try.underlying3 rfl rfl rfl rfl rfl rfl (by assumption)) ?_) | (refine AD1.rd rfl rfl rfl (fun _ _ h => h) (rd_load_flat Try.underlying3 rfl rfl rfl rfl rfl rfl (fun _ => rfl) (by assumption) rfl) ?_))
         (first | (refine AD1.rp rfl rfl rfl (fun _ _ h => h) (rp_lssT rfl rfl rfl (by first | assumption | omega | (dsimp only; omega))) ?_) | (refine AD1.rp rfl rfl rfl (fun _ _ h => h) (rp_lssF rfl rfl rfl (by first | assumption | omega | (dsimp only; omega))) ?_) | (refine AD1.rp rfl rfl rfl (fun _ _ h => h) (rp_lss rfl rfl rfl) ?_))
         refine AD1.nil ?_
         try simp only [thenS, S.put]
         refine AW.condT rfl ?_
         refine AW.seq ?_
         refine AW.draw [(0, true), (1, true), (2, true), (3, true), (4, true), (5, true), (6, true), (7, true), (8, true), (9, true), (10, true), (11, true), (12, true), (13, false)] (fun i => !([13] : List Nat).contains i) 14 (by kernel_rfl) (by kernel_rfl) rfl (by kernel_rfl) ?_
         refine AD1.rp rfl rfl rfl (fun _ _ h => h) (rp_move rfl rfl) ?_
         refine AD1.rp rfl rfl rfl (fun _ _ h => h) (rp_move rfl rfl) ?_
         refine AD1.rp rfl rfl rfl (fun _ _ h => h) (rp_move rfl rfl) ?_
         refine AD1.rp rfl rfl rfl (fun _ _ h => h) (rp_move rfl rfl) ?_
         (first | (refine AD1.rp rfl rfl rfl (fun _ _ h => h) (rp_index_map Try.underlying29 inf3 rfl rfl rfl rfl (by assumption)) ?_) | (refine AD1.rp rfl rfl rfl (fun _ _ h => h) (rp_index_own Try.underlying29 inf3 rfl rfl rfl rfl (by first | assumption | omega)) ?_) | (refine AD1.rp rfl rfl rfl (fun _ _ h => h) (rd_index_sl Try.underlying29 inf3 rfl rfl rfl rfl (by assumption)) ?_) | (refine AD1.rp rfl rfl rfl (fun _ _ h => h) (rp_index_own Try.underlying29 inf3 rfl rfl rfl (by omega) (by omega)) ?_))
         (first | (refine AD1.rd rfl rfl rfl (fun _ _ h => h) (rd_load_ref Try.underlying3 rfl rfl rfl rfl rfl rfl) ?_) | (refine AD1.rd rfl rfl rfl (fun _ _ h => h) (rd_load_ad Try.underlying3 rfl rfl rfl rfl) ?_) | (refine AD1.rd rfl rfl rfl (fun _ _ h => h) (rd_load_map Try.underlying3 rfl rfl rfl rfl rfl rfl (by assumption)) ?_) | (refine AD1.rd rfl rfl rfl (fun _ _ h => h) (rd_load_flat Try.underlying3 rfl rfl rfl rfl rfl rfl (fun _ => rfl) (by assumption) rfl) ?_))
         refine AD1.rp rfl rfl rfl (fun _ _ h => h) (rp_move rfl rfl) ?_
         refine AD1.rp rfl rfl rfl (fun _ _ h => h) (rp_move rfl rfl) ?_
         (first | (refine AD1.rp rfl rfl rfl (fun _ _ h => h) (rp_index_map Try.underlying67 inf79 rfl rfl rfl rfl (by assumption)) ?_) | (refine AD1.rp rfl rfl rfl (fun _ _ h => h) (rp_index_own Try.underlying67 inf79 rfl rfl rfl rfl (by first | assumption | omega)) ?_) | (refine AD1.rp rfl rfl rfl (fun _ _ h => h) (rd_index_sl Try.underlying67 inf79 rfl rfl rfl rfl (by assumption)) ?_) | (refine AD1.rp rfl rfl rfl (fun _ _ h => h) (rp_index_own Try.underlying67 inf79 rfl rfl rfl (by omega) (by omega)) ?_))
         (first | (refine AD1.rp rfl rfl rfl (fun _ _ h => h) (rp_field_ref Try.underlying79 rfl rfl rfl inf3 (by decide) rfl) ?_) | (refine AD1.rp rfl rfl rfl (fun _ _ h => h) (rp_field_ad Try.underlying79 rfl rfl rfl inf3 (by decide) rfl) ?_))
         (first | (refine AD1.rd rfl rfl rfl (fun _ _ h => h) (rd_load_ref Try.underlying3 rfl rfl rfl rfl rfl rfl) ?_) | (refine AD1.rd rfl rfl rfl (fun _ _ h => h) (rd_load_ad Try.underlying3 rfl rfl rfl rfl) ?_) | (refine AD1.rd rfl rfl rfl (fun _ _ h => h) (rd_load_map Try.underlying3 rfl rfl rfl rfl rfl rfl (by assumption)) ?_) | (refine AD1.rd rfl rfl rfl (fun _ _ h => h) (rd_load_flat Try.underlying3 rfl rfl rfl rfl rfl rfl (fun _ => rfl) (by assumption) rfl) ?_))
         refine AD1.rp rfl rfl rfl (fun _ _ h => h) (rp_add rfl rfl rfl (by first | omega | (dsimp only; omega))) ?_
         (first | (refine AD1.rp rfl rfl rfl (fun _ _ h => h) (rp_index_map Try.underlying29 inf3 rfl rfl rfl rfl (by assumption)) ?_) | (refine AD1.rp rfl rfl rfl (fun _ _ h => h) (rp_index_own Try.underlying29 inf3 rfl rfl rfl rfl (by first | assumption | omega)) ?_) | (refine AD1.rp rfl rfl rfl (fun _ _ h => h) (rd_index_sl Try.underlying29 inf3 rfl rfl rfl rfl (by assumption)) ?_) | (refine AD1.rp rfl rfl rfl (fun _ _ h => h) (rp_index_own Try.underlying29 inf3 rfl rfl rfl (by omega) (by omega)) ?_))
         refine AD1.go ?_
         refine AD2.go ?_
         refine AD3.st rfl rfl rfl (st_store_map2 (v := c + w) inf3 rfl rfl rfl rfl rfl rfl rfl rfl (by first | assumption | omega)) ?_
         refine AD3.nil ?_
         try simp only [thenS, S.put, S.newObj, setL, V.cs, List.length_cons, List.length_nil, List.take_succ_cons, List.take_zero, List.drop_succ_cons, List.drop_zero, List.drop_nil, List.nil_append, List.cons_append, List.append_nil, Nat.zero_add, Nat.reduceAdd, List.map_cons, List.map_nil, List.set_cons_zero, List.set_cons_succ]
         refine AW.region ?_
         refine AL.rp rfl rfl (rp_assign rfl rfl) ?_
         refine AL.nil ?_
         try simp only [thenS, S.put]
         refine AW.region ?_
         refine AL.rp rfl rfl (rp_move rfl rfl) ?_
         refine AL.rp rfl rfl (rp_add rfl rfl rfl (by first | omega | (dsimp only; omega))) ?_
         refine AL.rp rfl rfl (rp_assign rfl rfl) ?_
         refine AL.nil ?_
         try simp only [thenS, S.put]
         refine ⟨_, ?_, ⟨T + 1, true, L.set p (c + w), by omega, hC2, hc2, rfl⟩, ?_⟩
         ·exact (Less.of rfl (by repeat (first | exact trivial | refine ⟨⟨_, rfl, Wk.refl _⟩, ?_⟩ | refine ⟨⟨_, rfl, Wk.nil _ _⟩, ?_⟩ | refine ⟨⟨_, rfl, Wk.junk _⟩, ?_⟩)) (by repeat (first | exact trivial | refine ⟨rfl, ?_⟩)) rfl)
         ·simp [S.nat, fnd]; omega
        ·have hC2 := hge hfi hfj hp rfl hc hb (by omega)
         refine AW.seq ?_
         refine AW.seq ?_
         refine AW.region ?_
         refine AL.rp rfl rfl (rp_move rfl rfl) ?_
         refine AL.rp rfl rfl (rp_move rfl rfl) ?_
         (first | (refine AL.rp rfl rfl (rp_len_map Try.underlying67 rfl rfl (by assumption)) ?_) | (refine AL.rp rfl rfl (rp_len_own Try.underlying67 rfl rfl) ?_) | (refine AL.rp rfl rfl (rp_len_sl Try.underlying67 rfl rfl) ?_) | (refine AL.rp rfl rfl (rp_len_nil Try.underlying67 rfl rfl) ?_) | (refine AL.rp rfl rfl (rp_len_str Try.underlying67 rfl rfl) ?_))
         (first | (refine AL.rp rfl rfl (rp_lssT rfl rfl rfl (by first | assumption | omega | (dsimp only; omega))) ?_) | (refine AL.rp rfl rfl (rp_lssF rfl rfl rfl (by first | assumption | omega | (dsimp only; omega))) ?_) | (refine AL.rp rfl rfl (rp_lss rfl rfl rfl) ?_))
         refine AL.nil ?_
         try simp only [thenS, S.put]
         refine AW.condT rfl ?_
         refine AW.skip ?_
         try simp only [thenS]
         refine AW.seq ?_
         refine AW.block ?_
         refine AW.seq ?_
         refine AW.draw [(0, true), (1, true), (2, true), (3, true), (4, true), (5, true), (6, true), (7, true), (8, true), (9, true), (10, true), (11, true), (12, true), (13, false), (14, false)] (fun i => !([] : List Nat).contains i) 15 (by kernel_rfl) (by kernel_rfl) rfl (by kernel_rfl) ?_
         refine AD1.rp rfl rfl rfl (fun _ _ h => h) (rp_move rfl rfl) ?_
         refine AD1.rp rfl rfl rfl (fun _ _ h => h) (rp_move rfl rfl) ?_
         refine AD1.rp rfl rfl rfl (fun _ _ h => h) (rp_move rfl rfl) ?_
         refine AD1.rp rfl rfl rfl (fun _ _ h => h) (rp_quoZ ((kd : Int)) rfl rfl rfl (by omega) (by omega)) ?_
         refine AD1.rp rfl rfl rfl (fun _ _ h => h) (rp_move rfl rfl) ?_
         (first | (refine AD1.rp rfl rfl rfl (fun _ _ h => h) (rp_len_map Try.underlying29 rfl rfl (by assumption)) ?_) | (refine AD1.rp rfl rfl rfl (fun _ _ h => h) (rp_len_own Try.underlying29 rfl rfl) ?_) | (refine AD1.rp rfl rfl rfl (fun _ _ h => h) (rp_len_sl Try.underlying29 rfl rfl) ?_) | (refine AD1.rp rfl rfl rfl (fun _ _ h => h) (rp_len_nil Try.underlying29 rfl rfl) ?_) | (refine AD1.rp rfl rfl rfl (fun _ _ h => h) (rp_len_str Try.underlying29 rfl rfl) ?_))
         refine AD1.rp rfl rfl rfl (fun _ _ h => h) (rp_add rfl rfl rfl (by first | omega | (dsimp only; omega))) ?_
         refine AD1.rp rfl rfl rfl (fun _ _ h => h) (rp_remZ ((I : Int)) rfl rfl rfl (by omega) (by omega)) ?_
         refine AD1.rp rfl rfl rfl (fun _ _ h => h) (rp_move rfl rfl) ?_
         refine AD1.rp rfl rfl rfl (fun _ _ h => h) (rp_move rfl rfl) ?_
         (first | (refine AD1.rp rfl rfl rfl (fun _ _ h => h) (rp_index_map Try.underlying67 inf79 rfl rfl rfl rfl (by assumption)) ?_) | (refine AD1.rp rfl rfl rfl (fun _ _ h => h) (rp_index_own Try.underlying67 inf79 rfl rfl rfl rfl (by first | assumption | omega)) ?_) | (refine AD1.rp rfl rfl rfl (fun _ _ h => h) (rd_index_sl Try.underlying67 inf79 rfl rfl rfl rfl (by assumption)) ?_) | (refine AD1.rp rfl rfl rfl (fun _ _ h => h) (rp_index_own Try.underlying67 inf79 rfl rfl rfl (by omega) (by omega)) ?_))
         (first | (refine AD1.rp rfl rfl rfl (fun _ _ h => h) (rp_field_ref Try.underlying79 rfl rfl rfl inf3 (by decide) rfl) ?_) | (refine AD1.rp rfl rfl rfl (fun _ _ h => h) (rp_field_ad Try.underlying79 rfl rfl rfl inf3 (by decide) rfl) ?_))
         (first | (refine AD1.rd rfl rfl rfl (fun _ _ h => h) (rd_load_ref Try.underlying3 rfl rfl rfl rfl rfl rfl) ?_) | (refine AD1.rd rfl rfl rfl (fun _ _ h => h) (rd_load_ad Try.underlying3 rfl rfl rfl rfl) ?_) | (refine AD1.rd rfl rfl rfl (fun _ _ h => h) (rd_load_map Try.underlying3 rfl rfl rfl rfl rfl rfl (by assumption)) ?_) | (refine AD1.rd rfl rfl rfl (fun _ _ h => h) (rd_load_flat Try.underlying3 rfl rfl rfl rfl rfl rfl (fun _ => rfl) (by assumption) rfl) ?_))
         refine AD1.go ?_
         refine AD2.call (post := ?pc50) rfl rfl (sm_call (args := [_, _, _]) ?hc50 ⟨Try.func111, rfl, rfl, rfl, rfl⟩ rfl rfl rfl rfl) ?_
         case hc50 => exact hfx
         rintro _ rfl -
         try dsimp only
         refine AD2.rp1 rfl rfl rfl (rp_assign rfl rfl) ?_
         refine AD2.nil ?_
         try simp only [thenS, S.put, S.newObj, setL, V.cs, List.length_cons, List.length_nil, List.take_succ_cons, List.take_zero, List.drop_succ_cons, List.drop_zero, List.drop_nil, List.nil_append, List.cons_append, List.append_nil, Nat.zero_add, Nat.reduceAdd, List.map_cons, List.map_nil, List.set_cons_zero, List.set_cons_succ]
         refine AW.seq ?_
         refine AW.region ?_
         refine AL.rp rfl rfl (rp_move rfl rfl) ?_
         refine AL.rp rfl rfl (rp_move rfl rfl) ?_
         refine AL.rp rfl rfl (rp_remZ ((J : Int)) rfl rfl rfl (by omega) (by omega)) ?_
         refine AL.rp rfl rfl (rp_assign rfl rfl) ?_
         refine AL.nil ?_
         try simp only [thenS, S.put]
         refine AW.seq ?_
         refine AW.seq ?_
         refine AW.region ?_
         refine AL.rp rfl rfl (rp_move rfl rfl) ?_
         refine AL.rp rfl rfl (rp_not rfl rfl) ?_
         refine AL.nil ?_
         try simp only [thenS, S.put]
         refine AW.condF rfl ?_
         refine AW.skip ?_
         try simp only [thenS]
         refine AW.seq ?_
         refine AW.seq ?_
         refine AW.region ?_
         refine AL.rp rfl rfl (rp_move rfl rfl) ?_
         (first | (refine AL.rp rfl rfl (rp_lssT rfl rfl rfl (by first | assumption | omega | (dsimp only; omega))) ?_) | (refine AL.rp rfl rfl (rp_lssF rfl rfl rfl (by first | assumption | omega | (dsimp only; omega))) ?_) | (refine AL.rp rfl rfl (rp_lss rfl rfl rfl) ?_))
         refine AL.rp rfl rfl (rp_move rfl rfl) ?_
         (first | (refine AL.noV rfl rfl rfl rfl ?_) | (refine AL.noU rfl ⟨_, rfl, rfl⟩ rfl ?_) | (refine AL.rpy rfl rfl rfl (rp_move rfl rfl) ?_))
         (first | (refine AL.noV rfl rfl rfl rfl ?_) | (refine AL.noU rfl ⟨_, rfl, rfl⟩ rfl ?_) | (refine AL.rpy rfl rfl rfl (rp_lssT rfl rfl rfl (by first | assumption | omega | (dsimp only; omega))) ?_) | (refine AL.rpy rfl rfl rfl (rp_lssF rfl rfl rfl (by first | assumption | omega | (dsimp only; omega))) ?_) | (refine AL.rpy rfl rfl rfl (rp_lss rfl rfl rfl) ?_))
         refine AL.rp rfl rfl (rp_pick rfl rfl rfl) ?_
         refine AL.nil ?_
         try simp only [thenS, S.put]
         refine AW.condF rfl ?_
         refine AW.skip ?_
         try simp only [thenS]
         refine AW.seq ?_
         refine AW.region ?_
         refine AL.rp rfl rfl (rp_move rfl rfl) ?_
         refine AL.rp rfl rfl (rp_move rfl rfl) ?_
         (first | (refine AL.rp rfl rfl (rp_index_map Try.underlying67 inf79 rfl rfl rfl rfl (by assumption)) ?_) | (refine AL.rp rfl rfl (rp_index_own Try.underlying67 inf79 rfl rfl rfl rfl (by first | assumption | omega)) ?_) | (refine AL.rp rfl rfl (rd_index_sl Try.underlying67 inf79 rfl rfl rfl rfl (by assumption)) ?_) | (refine AL.rp rfl rfl (rp_index_own Try.underlying67 inf79 rfl rfl rfl (by omega) (by omega)) ?_))
         (first | (refine AL.rp rfl rfl (rp_field_ref Try.underlying79 rfl rfl rfl inf3 (by decide) rfl) ?_) | (refine AL.rp rfl rfl (rp_field_ad Try.underlying79 rfl rfl rfl inf3 (by decide) rfl) ?_))
         (first | (refine AL.rd rfl rfl (rd_load_ref Try.underlying3 rfl rfl rfl rfl rfl rfl) ?_) | (refine AL.rd rfl rfl (rd_load_ad Try.underlying3 rfl rfl rfl rfl) ?_) | (refine AL.rd rfl rfl (rd_load_map Try.underlying3 rfl rfl rfl rfl rfl rfl (by assumption)) ?_) | (refine AL.rd rfl rfl (rd_load_flat Try.underlying3 rfl rfl rfl rfl rfl rfl (fun _ => rfl) (by assumption) rfl) ?_))
         refine AL.rp rfl rfl (rp_move rfl rfl) ?_
         (first | (refine AL.rp rfl rfl (rp_len_map Try.underlying29 rfl rfl (by assumption)) ?_) | (refine AL.rp rfl rfl (rp_len_own Try.underlying29 rfl rfl) ?_) | (refine AL.rp rfl rfl (rp_len_sl Try.underlying29 rfl rfl) ?_) | (refine AL.rp rfl rfl (rp_len_nil Try.underlying29 rfl rfl) ?_) | (refine AL.rp rfl rfl (rp_len_str Try.underlying29 rfl rfl) ?_))
         refine AL.rp rfl rfl (rp_add rfl rfl rfl (by first | omega | (dsimp only; omega))) ?_
         refine AL.rp rfl rfl (rp_mulZ ((a1 : Int)) rfl rfl rfl (by omega) (by omega)) ?_
         refine AL.rp rfl rfl (rp_move rfl rfl) ?_
         refine AL.rp rfl rfl (rp_add rfl rfl rfl (by first | omega | (dsimp only; omega))) ?_
         refine AL.rp rfl rfl (rp_move rfl rfl) ?_
         refine AL.rp rfl rfl (rp_mulZ ((a2 : Int)) rfl rfl rfl (by omega) (by omega)) ?_
         refine AL.rp rfl rfl (rp_move rfl rfl) ?_
         refine AL.rp rfl rfl (rp_addZ ((p : Int)) rfl rfl rfl (by omega) (by omega)) ?_
         refine AL.rp rfl rfl (rp_assign rfl rfl) ?_
         refine AL.nil ?_
         try simp only [thenS, S.put]
         refine AW.seq ?_
         refine AW.draw [(0, true), (1, true), (2, true), (3, true), (4, true), (5, true), (6, true), (7, true), (8, true), (9, true), (10, true), (11, true), (12, true), (13, true), (14, true)] (fun i => !([] : List Nat).contains i) 15 (by kernel_rfl) (by kernel_rfl) rfl (by kernel_rfl) ?_
         refine AD1.rp rfl rfl rfl (fun _ _ h => h) (rp_move rfl rfl) ?_
         refine AD1.rp rfl rfl rfl (fun _ _ h => h) (rp_move rfl rfl) ?_
         (first | (refine AD1.rp rfl rfl rfl (fun _ _ h => h) (rp_index_map Try.underlying29 inf3 rfl rfl rfl rfl (by assumption)) ?_) | (refine AD1.rp rfl rfl rfl (fun _ _ h => h) (rp_index_own Try.underlying29 inf3 rfl rfl rfl rfl (by first | assumption | omega)) ?_) | (refine AD1.rp rfl rfl rfl (fun _ _ h => h) (rd_index_sl Try.underlying29 inf3 rfl rfl rfl rfl (by assumption)) ?_) | (refine AD1.rp rfl rfl rfl (fun _ _ h => h) (rp_index_own Try.underlying29 inf3 rfl rfl rfl (by omega) (by omega)) ?_))
         (first | (refine AD1.rd rfl rfl rfl (fun _ _ h => h) (rd_load_ref Try.underlying3 rfl rfl rfl rfl rfl rfl) ?_) | (refine AD1.rd rfl rfl rfl (fun _ _ h => h) (rd_load_ad Try.underlying3 rfl rfl rfl rfl) ?_) | (refine AD1.rd rfl rfl rfl (fun _ _ h => h) (rd_load_map Try.underlying3 rfl rfl rfl rfl rfl rfl (by assumption)) ?_) | (refine AD1.rd rfl rfl rfl (fun _ _ h => h) (rd_load_flat Try.underlying3 rfl rfl rfl rfl rfl rfl (fun _ => rfl) (by assumption) rfl) ?_))
         refine AD1.rp rfl rfl rfl (fun _ _ h => h) (rp_move rfl rfl) ?_
         refine AD1.rp rfl rfl rfl (fun _ _ h => h) (rp_move rfl rfl) ?_
         (first | (refine AD1.rp rfl rfl rfl (fun _ _ h => h) (rp_index_map Try.underlying67 inf79 rfl rfl rfl rfl (by assumption)) ?_) | (refine AD1.rp rfl rfl rfl (fun _ _ h => h) (rp_index_own Try.underlying67 inf79 rfl rfl rfl rfl (by first | assumption | omega)) ?_) | (refine AD1.rp rfl rfl rfl (fun _ _ h => h) (rd_index_sl Try.underlying67 inf79 rfl rfl rfl rfl (by assumption)) ?_) | (refine AD1.rp rfl rfl rfl (fun _ _ h => h) (rp_index_own Try.underlying67 inf79 rfl rfl rfl (by omega) (by omega)) ?_))
         (first | (refine AD1.rp rfl rfl rfl (fun _ _ h => h) (rp_field_ref Try.underlying79 rfl rfl rfl inf3 (by decide) rfl) ?_) | (refine AD1.rp rfl rfl rfl (fun _ _ h => h) (rp_field_ad Try.underlying79 rfl rfl rfl inf3 (by decide) rfl) ?_))
         (first | (refine AD1.rd rfl rfl rfl (fun _ _ h => h) (rd_load_ref Try.underlying3 rfl rfl rfl rfl rfl rfl) ?_) | (refine AD1.rd rfl rfl rfl (fun _ _ h => h) (rd_load_ad Try.underlying3 rfl rfl rfl rfl) ?_) | (refine AD1.rd rfl rfl rfl (fun _ _ h => h) (rd_load_map Try.underlying3 rfl rfl rfl rfl rfl rfl (by assumption)) ?_) | (refine AD1.rd rfl rfl rfl (fun _ _ h => h) (rd_load_flat Try.underlying3 rfl rfl rfl rfl rfl rfl (fun _ => rfl) (by assumption) rfl) ?_))
         refine AD1.rp rfl rfl rfl (fun _ _ h => h) (rp_add rfl rfl rfl (by first | omega | (dsimp only; omega))) ?_
         refine AD1.rp rfl rfl rfl (fun _ _ h => h) (rp_move rfl rfl) ?_
         refine AD1.rp rfl rfl rfl (fun _ _ h => h) (rp_move rfl rfl) ?_
         (first | (refine AD1.rp rfl rfl rfl (fun _ _ h => h) (rp_index_map Try.underlying29 inf3 rfl rfl rfl rfl (by assumption)) ?_) | (refine AD1.rp rfl rfl rfl (fun _ _ h => h) (rp_index_own Try.underlying29 inf3 rfl rfl rfl rfl (by first | assumption | omega)) ?_) | (refine AD1.rp rfl rfl rfl (fun _ _ h => h) (rd_index_sl Try.underlying29 inf3 rfl rfl rfl rfl (by assumption)) ?_) | (refine AD1.rp rfl rfl rfl (fun _ _ h => h) (rp_index_own Try.underlying29 inf3 rfl rfl rfl (by omega) (by omega)) ?_))
         (first | (refine AD1.rd rfl rfl rfl (fun _ _ h => h) (rd_load_ref Try.underlying3 rfl rfl rfl rfl rfl rfl) ?_) | (refine AD1.rd rfl rfl rfl (fun _ _ h => h) (rd_load_ad Try.underlying3 rfl rfl rfl rfl) ?_) | (refine AD1.rd rfl rfl rfl (fun _ _ h => h) (rd_load_map Try.underlying3 rfl rfl rfl rfl rfl rfl (by assumption)) ?_) | (refine AD1.rd rfl rfl rfl (fun _ _ h => h) (rd_load_flat Try.underlying3 rfl rfl rfl rfl rfl rfl (fun _ => rfl) (by assumption) rfl) ?_))
         (first | (refine AD1.rp rfl rfl rfl (fun _ _ h => h) (rp_lssT rfl rfl rfl (by first | assumption | omega | (dsimp only; omega))) ?_) | (refine AD1.rp rfl rfl rfl (fun _ _ h => h) (rp_lssF rfl rfl rfl (by first | assumption | omega | (dsimp only; omega))) ?_) | (refine AD1.rp rfl rfl rfl (fun _ _ h => h) (rp_lss rfl rfl rfl) ?_))
         refine AD1.nil ?_
         try simp only [thenS, S.put]
         refine AW.condF rfl ?_
         refine AW.skip ?_
         try simp only [thenS]
         refine AW.region ?_
         refine AL.rp rfl rfl (rp_move rfl rfl) ?_
         refine AL.rp rfl rfl (rp_add rfl rfl rfl (by first | omega | (dsimp only; omega))) ?_
         refine AL.rp rfl rfl (rp_assign rfl rfl) ?_
         refine AL.nil ?_
         try simp only [thenS, S.put]
         refine ⟨_, ?_, ⟨T + 1, ag, L, by omega, hC2, ⟨c, hc, hcb⟩, rfl⟩, ?_⟩
         ·exact (Less.of rfl (by repeat (first | exact trivial | refine ⟨⟨_, rfl, Wk.refl _⟩, ?_⟩ | refine ⟨⟨_, rfl, Wk.nil _ _⟩, ?_⟩ | refine ⟨⟨_, rfl, Wk.junk _⟩, ?_⟩)) (by repeat (first | exact trivial | refine ⟨rfl, ?_⟩)) rfl)
         ·simp [S.nat, fnd]; omega
      ·obtain rfl : T = la := by omega
       have hC2 := hnext hC
       refine AW.seq ?_
       refine AW.seq ?_
       refine AW.region ?_
       refine AL.rp rfl rfl (rp_move rfl rfl) ?_
       refine AL.rp rfl rfl (rp_move rfl rfl) ?_
       (first | (refine AL.rp rfl rfl (rp_len_map Try.underlying67 rfl rfl (by assumption)) ?_) | (refine AL.rp rfl rfl (rp_len_own Try.underlying67 rfl rfl) ?_) | (refine AL.rp rfl rfl (rp_len_sl Try.underlying67 rfl rfl) ?_) | (refine AL.rp rfl rfl (rp_len_nil Try.underlying67 rfl rfl) ?_) | (refine AL.rp rfl rfl (rp_len_str Try.underlying67 rfl rfl) ?_))
       (first | (refine AL.rp rfl rfl (rp_lssT rfl rfl rfl (by first | assumption | omega | (dsimp only; omega))) ?_) | (refine AL.rp rfl rfl (rp_lssF rfl rfl rfl (by first | assumption | omega | (dsimp only; omega))) ?_) | (refine AL.rp rfl rfl (rp_lss rfl rfl rfl) ?_))
       refine AL.nil ?_
       try simp only [thenS, S.put]
       refine AW.condF rfl ?_
       refine AW.exit ?_
       try simp only [thenS, inBlockS, ↓reduceIte, Nat.reduceEqDiff]
       refine AW.region ?_
       refine AL.rp rfl rfl (rp_move rfl rfl) ?_
       refine AL.rp rfl rfl (rp_add rfl rfl rfl (by first | omega | (dsimp only; omega))) ?_
       refine AL.rp rfl rfl (rp_assign rfl rfl) ?_
       refine AL.nil ?_
       try simp only [thenS, S.put]
       refine ⟨_, ?_, ⟨k + 1, ag, L, by omega, hC2, rfl⟩, ?_⟩
       ·exact (Less.of rfl (by repeat (first | exact trivial | refine ⟨⟨_, rfl, Wk.refl _⟩, ?_⟩ | refine ⟨⟨_, rfl, Wk.nil _ _⟩, ?_⟩ | refine ⟨⟨_, rfl, Wk.junk _⟩, ?_⟩)) (by repeat (first | exact trivial | refine ⟨rfl, ?_⟩)) rfl)
       ·simp [S.nat, fnd]; omega
    ·obtain rfl : k = N := by omega
     obtain ⟨N, rfl⟩ : ∃ n, n = k := ⟨_, rfl⟩
     have hLS := hS2 hC
     have hfin : ag = false → L = (List.range N).map D := fun h => by subst h; exact hdone' hC (Nat.le_refl _)
     have hs1 := hC.sum1
     refine AW.seq ?_
     refine AW.seq ?_
     refine AW.region ?_
     refine AL.rp rfl rfl (rp_move rfl rfl) ?_
     refine AL.rp rfl rfl (rp_move rfl rfl) ?_
     (first | (refine AL.rp rfl rfl (rp_len_map Try.underlying29 rfl rfl (by assumption)) ?_) | (refine AL.rp rfl rfl (rp_len_own Try.underlying29 rfl rfl) ?_) | (refine AL.rp rfl rfl (rp_len_sl Try.underlying29 rfl rfl) ?_) | (refine AL.rp rfl rfl (rp_len_nil Try.underlying29 rfl rfl) ?_) | (refine AL.rp rfl rfl (rp_len_str Try.underlying29 rfl rfl) ?_))
     (first | (refine AL.rp rfl rfl (rp_lssT rfl rfl rfl (by first | assumption | omega | (dsimp only; omega))) ?_) | (refine AL.rp rfl rfl (rp_lssF rfl rfl rfl (by first | assumption | omega | (dsimp only; omega))) ?_) | (refine AL.rp rfl rfl (rp_lss rfl rfl rfl) ?_))
     refine AL.nil ?_
     try simp only [thenS, S.put]
     refine AW.condF rfl ?_
     refine AW.exit ?_
     try simp only [thenS, inBlockS, ↓reduceIte, Nat.reduceEqDiff]
     refine ⟨_, _, ?_, ⟨ag, L, hLS, hfin, rfl, rfl⟩, ?_⟩
     ·exact (Less.of rfl (by repeat (first | exact trivial | refine ⟨⟨_, rfl, Wk.refl _⟩, ?_⟩ | refine ⟨⟨_, rfl, Wk.nil _ _⟩, ?_⟩ | refine ⟨⟨_, rfl, Wk.junk _⟩, ?_⟩)) (by repeat (first | exact trivial | refine ⟨rfl, ?_⟩)) rfl)
     ·cases ag with
      | true => have := hs1 rfl; simp only [if_true]; omega
      | false => simp; omega
  rintro s' rfl
  clear hS hS2 hdone' hdec htolt hL0 L0
  obtain ⟨M, hM⟩ : ∃ M, (List.range N).map D = M := ⟨_, rfl⟩
  have hMl : M.length = N := by rw [← hM]; simp
  have hMg : ∀ k, k < N → M[k]? = some (D k) := fun k hk => by rw [← hM]; simp [List.getElem?_range hk]
  rw [hM]
  clear hM
  refine AW.seq ?_
  refine AW.region ?_
  refine AL.rp rfl rfl (rp_assign rfl rfl) ?_
  refine AL.nil ?_
  try simp only [thenS, S.put]
  refine AW.seq ?_
  refine AW.seq ?_
  refine AW.region ?_
  refine AL.rp rfl rfl (rp_assign rfl rfl) ?_
  refine AL.nil ?_
  try simp only [thenS, S.put]
  refine AW.block ?_
  refine AW.loop (fun s' => ∃ (q b : Nat), q ≤ n ∧ Bsw sts x y D q b ∧ s' = ⟨220, [(1, .d (intsD x)), (2, .nil), (3, .b true), (4, .ref 4 0), (9, .i n), (10, .i Wi), (11, .own 36 1 N false), (20, .i b), (21, .i q)], [(4, ⟨24, [.i st, .d (stsD sts)], false, 0⟩), (36, ⟨3, M.map V.n, false, 1⟩)], []⟩) (fun s' => n - s'.nat 21) ⟨_, ?_, 0, big, by omega, Bsw.start, rfl⟩ ?_
  ·exact (Less.of rfl (by repeat (first | exact trivial | refine ⟨⟨_, rfl, Wk.refl _⟩, ?_⟩ | refine ⟨⟨_, rfl, Wk.nil _ _⟩, ?_⟩ | refine ⟨⟨_, rfl, Wk.junk _⟩, ?_⟩)) (by repeat (first | exact trivial | refine ⟨rfl, ?_⟩)) rfl)
  rintro s' ⟨q, b, hq, hBs, rfl⟩
  have hble := hBs.le
  by_cases hqn : q < n
  ·obtain ⟨s, hs⟩ := get_lt hn hqn
   have hsf := hfz s (List.mem_of_getElem? hs)
   have hpN := hend q hqn
   have hpE := hixE q X Y
   have hput := fun {d z} h1 h2 h3 h4 h5 => hBs.put (d := d) (z := z) hs h1 h2 h3 h4 h5
   have hskip := hBs.skip hs
   rw [hX, hY] at hput hskip
   obtain ⟨p, hp⟩ : ∃ p, ixW x y q X Y = p := ⟨_, rfl⟩
   rw [hp] at hpN hpE hput hskip
   obtain ⟨a1, ha1⟩ : ∃ a, q * (X + 1) = a := ⟨_, rfl⟩
   obtain ⟨a2, ha2⟩ : ∃ a, (a1 + X) * (Y + 1) = a := ⟨_, rfl⟩
   have ha1i : (q : Int) * ((X : Int) + 1) = (a1 : Int) := by rw [← ha1]; push_cast; rfl
   have ha2i : ((a1 : Int) + (X : Int)) * Wi = (a2 : Int) := by rw [← ha2, hWi]; push_cast; rfl
   rw [ha1, ha2] at hpE
   have ha1b : a1 + X ≤ a2 := by rw [← ha2]; exact Nat.le_mul_of_pos_right _ (by omega)
   have hd := hMg p hpN
   have hdb := hdle p
   obtain ⟨d, hde⟩ : ∃ d, D p = d := ⟨_, rfl⟩
   rw [hde] at hd hdb hskip
   have hput2 := fun {z} h2 h3 h4 h5 => hput (d := d) (z := z) hde h2 h3 h4 h5
   clear hput hde
   obtain ⟨sf, sa⟩ := s
   simp only at hsf hput2 hskip
   obtain ⟨f, rfl⟩ : ∃ f : Nat, sf = f := ⟨sf.toNat, by omega⟩
   by_cases h1 : d = big
   ·have hB2 := hskip (.inl h1)
    refine AW.seq ?_
    refine AW.seq ?_
    refine AW.region ?_
    refine AL.rp rfl rfl (rp_move rfl rfl) ?_
    refine AL.rp rfl rfl (rp_move rfl rfl) ?_
    (first | (refine AL.rp rfl rfl (rp_lssT rfl rfl rfl (by first | assumption | omega | (dsimp only; omega))) ?_) | (refine AL.rp rfl rfl (rp_lssF rfl rfl rfl (by first | assumption | omega | (dsimp only; omega))) ?_) | (refine AL.rp rfl rfl (rp_lss rfl rfl rfl) ?_))
    refine AL.nil ?_
    try simp only [thenS, S.put]
    refine AW.condT rfl ?_
    refine AW.skip ?_
    try simp only [thenS]
    refine AW.seq ?_
    refine AW.block ?_
    refine AW.seq ?_
    refine AW.region ?_
    refine AL.rp rfl rfl (rp_move rfl rfl) ?_
    refine AL.rp rfl rfl (rp_move rfl rfl) ?_
    refine AL.rp rfl rfl (rp_move rfl rfl) ?_
    (first | (refine AL.rp rfl rfl (rp_len_map Try.underlying29 rfl rfl (by assumption)) ?_) | (refine AL.rp rfl rfl (rp_len_own Try.underlying29 rfl rfl) ?_) | (refine AL.rp rfl rfl (rp_len_sl Try.underlying29 rfl rfl) ?_) | (refine AL.rp rfl rfl (rp_len_nil Try.underlying29 rfl rfl) ?_) | (refine AL.rp rfl rfl (rp_len_str Try.underlying29 rfl rfl) ?_))
    refine AL.rp rfl rfl (rp_add rfl rfl rfl (by first | omega | (dsimp only; omega))) ?_
    refine AL.rp rfl rfl (rp_mulZ ((a1 : Int)) rfl rfl rfl (by omega) (by omega)) ?_
    refine AL.rp rfl rfl (rp_move rfl rfl) ?_
    (first | (refine AL.rp rfl rfl (rp_len_map Try.underlying29 rfl rfl (by assumption)) ?_) | (refine AL.rp rfl rfl (rp_len_own Try.underlying29 rfl rfl) ?_) | (refine AL.rp rfl rfl (rp_len_sl Try.underlying29 rfl rfl) ?_) | (refine AL.rp rfl rfl (rp_len_nil Try.underlying29 rfl rfl) ?_) | (refine AL.rp rfl rfl (rp_len_str Try.underlying29 rfl rfl) ?_))
    refine AL.rp rfl rfl (rp_add rfl rfl rfl (by first | omega | (dsimp only; omega))) ?_
    refine AL.rp rfl rfl (rp_move rfl rfl) ?_
    refine AL.rp rfl rfl (rp_mulZ ((a2 : Int)) rfl rfl rfl (by omega) (by omega)) ?_
    refine AL.rp rfl rfl (rp_move rfl rfl) ?_
    (first | (refine AL.rp rfl rfl (rp_len_map Try.underlying29 rfl rfl (by assumption)) ?_) | (refine AL.rp rfl rfl (rp_len_own Try.underlying29 rfl rfl) ?_) | (refine AL.rp rfl rfl (rp_len_sl Try.underlying29 rfl rfl) ?_) | (refine AL.rp rfl rfl (rp_len_nil Try.underlying29 rfl rfl) ?_) | (refine AL.rp rfl rfl (rp_len_str Try.underlying29 rfl rfl) ?_))
    refine AL.rp rfl rfl (rp_addZ ((p : Int)) rfl rfl rfl (by omega) (by omega)) ?_
    (first | (refine AL.rp rfl rfl (rp_index_map Try.underlying29 inf3 rfl rfl rfl rfl (by assumption)) ?_) | (refine AL.rp rfl rfl (rp_index_own Try.underlying29 inf3 rfl rfl rfl rfl (by first | assumption | omega)) ?_) | (refine AL.rp rfl rfl (rd_index_sl Try.underlying29 inf3 rfl rfl rfl rfl (by assumption)) ?_) | (refine AL.rp rfl rfl (rp_index_own Try.underlying29 inf3 rfl rfl rfl (by omega) (by omega)) ?_))
    (first | (refine AL.rd rfl rfl (rd_load_ref Try.underlying3 rfl rfl rfl rfl rfl rfl) ?_) | (refine AL.rd rfl rfl (rd_load_ad Try.underlying3 rfl rfl rfl rfl) ?_) | (refine AL.rd rfl rfl (rd_load_map Try.underlying3 rfl rfl rfl rfl rfl rfl (by assumption)) ?_) | (refine AL.rd rfl rfl (rd_load_flat Try.underlying3 rfl rfl rfl rfl rfl rfl (fun _ => rfl) (by assumption) rfl) ?_))
    refine AL.rp rfl rfl (rp_assign rfl rfl) ?_
    refine AL.nil ?_
    try simp only [thenS, S.put]
    refine AW.seq ?_
    refine AW.region ?_
    refine AL.rp rfl rfl (rp_move rfl rfl) ?_
    (first | (refine AL.rp rfl rfl (rp_neqT rfl rfl rfl (by first | assumption | omega | (dsimp only; omega))) ?_) | (refine AL.rp rfl rfl (rp_neqF rfl rfl rfl (by first | assumption | omega | (dsimp only; omega))) ?_) | (refine AL.rp rfl rfl (rp_neq rfl rfl rfl) ?_))
    refine AL.rp rfl rfl (rp_move rfl rfl) ?_
    (first | (refine AL.noV rfl rfl rfl rfl ?_) | (refine AL.noU rfl ⟨_, rfl, rfl⟩ rfl ?_) | (refine AL.rpy rfl rfl rfl (rp_field_ref Try.underlying24 rfl rfl rfl inf22 (by decide) rfl) ?_) | (refine AL.rpy rfl rfl rfl (rp_field_ad Try.underlying24 rfl rfl rfl inf22 (by decide) rfl) ?_))
    (first | (refine AL.noV rfl rfl rfl rfl ?_) | (refine AL.noU rfl ⟨_, rfl, rfl⟩ rfl ?_) | (refine AL.rdy rfl rfl rfl (rd_load_ref Try.underlying22 rfl rfl rfl rfl rfl rfl) ?_) | (refine AL.rdy rfl rfl rfl (rd_load_ad Try.underlying22 rfl rfl rfl rfl) ?_) | (refine AL.rdy rfl rfl rfl (rd_load_map Try.underlying22 rfl rfl rfl rfl rfl rfl (by assumption)) ?_) | (refine AL.rdy rfl rfl rfl (rd_load_flat Try.underlying22 rfl rfl rfl rfl rfl rfl (fun _ => rfl) (by assumption) rfl) ?_))
    (first | (refine AL.noV rfl rfl rfl rfl ?_) | (refine AL.noU rfl ⟨_, rfl, rfl⟩ rfl ?_) | (refine AL.rpy rfl rfl rfl (rp_move rfl rfl) ?_))
    (first | (refine AL.noV rfl rfl rfl rfl ?_) | (refine AL.noU rfl ⟨_, rfl, rfl⟩ rfl ?_) | (refine AL.rpy rfl rfl rfl (rp_index_map Try.underlying22 inf69 rfl rfl rfl rfl (by assumption)) ?_) | (refine AL.rpy rfl rfl rfl (rp_index_own Try.underlying22 inf69 rfl rfl rfl rfl (by first | assumption | omega)) ?_) | (refine AL.rpy rfl rfl rfl (rd_index_sl Try.underlying22 inf69 rfl rfl rfl rfl (by assumption)) ?_) | (refine AL.rpy rfl rfl rfl (rp_index_own Try.underlying22 inf69 rfl rfl rfl (by omega) (by omega)) ?_))
    (first | (refine AL.noV rfl rfl rfl rfl ?_) | (refine AL.noU rfl ⟨_, rfl, rfl⟩ rfl ?_) | (refine AL.rpy rfl rfl rfl (rp_field_ref Try.underlying69 rfl rfl rfl inf3 (by decide) rfl) ?_) | (refine AL.rpy rfl rfl rfl (rp_field_ad Try.underlying69 rfl rfl rfl inf3 (by decide) rfl) ?_))
    (first | (refine AL.noV rfl rfl rfl rfl ?_) | (refine AL.noU rfl ⟨_, rfl, rfl⟩ rfl ?_) | (refine AL.rdy rfl rfl rfl (rd_load_ref Try.underlying3 rfl rfl rfl rfl rfl rfl) ?_) | (refine AL.rdy rfl rfl rfl (rd_load_ad Try.underlying3 rfl rfl rfl rfl) ?_) | (refine AL.rdy rfl rfl rfl (rd_load_map Try.underlying3 rfl rfl rfl rfl rfl rfl (by assumption)) ?_) | (refine AL.rdy rfl rfl rfl (rd_load_flat Try.underlying3 rfl rfl rfl rfl rfl rfl (fun _ => rfl) (by assumption) rfl) ?_))
    (first | (refine AL.noV rfl rfl rfl rfl ?_) | (refine AL.noU rfl ⟨_, rfl, rfl⟩ rfl ?_) | (refine AL.rpy rfl rfl rfl (rp_neqT rfl rfl rfl (by first | assumption | omega | (dsimp only; omega))) ?_) | (refine AL.rpy rfl rfl rfl (rp_neqF rfl rfl rfl (by first | assumption | omega | (dsimp only; omega))) ?_) | (refine AL.rpy rfl rfl rfl (rp_neq rfl rfl rfl) ?_))
    refine AL.rp rfl rfl (rp_pick rfl rfl rfl) ?_
    refine AL.rp rfl rfl (rp_move rfl rfl) ?_
    (first | (refine AL.noV rfl rfl rfl rfl ?_) | (refine AL.noU rfl ⟨_, rfl, rfl⟩ rfl ?_) | (refine AL.rpy rfl rfl rfl (rp_move rfl rfl) ?_))
    (first | (refine AL.noV rfl rfl rfl rfl ?_) | (refine AL.noU rfl ⟨_, rfl, rfl⟩ rfl ?_) | (refine AL.rpy rfl rfl rfl (rp_field_ref Try.underlying24 rfl rfl rfl inf22 (by decide) rfl) ?_) | (refine AL.rpy rfl rfl rfl (rp_field_ad Try.underlying24 rfl rfl rfl inf22 (by decide) rfl) ?_))
    (first | (refine AL.noV rfl rfl rfl rfl ?_) | (refine AL.noU rfl ⟨_, rfl, rfl⟩ rfl ?_) | (refine AL.rdy rfl rfl rfl (rd_load_ref Try.underlying22 rfl rfl rfl rfl rfl rfl) ?_) | (refine AL.rdy rfl rfl rfl (rd_load_ad Try.underlying22 rfl rfl rfl rfl) ?_) | (refine AL.rdy rfl rfl rfl (rd_load_map Try.underlying22 rfl rfl rfl rfl rfl rfl (by assumption)) ?_) | (refine AL.rdy rfl rfl rfl (rd_load_flat Try.underlying22 rfl rfl rfl rfl rfl rfl (fun _ => rfl) (by assumption) rfl) ?_))
    (first | (refine AL.noV rfl rfl rfl rfl ?_) | (refine AL.noU rfl ⟨_, rfl, rfl⟩ rfl ?_) | (refine AL.rpy rfl rfl rfl (rp_move rfl rfl) ?_))
    (first | (refine AL.noV rfl rfl rfl rfl ?_) | (refine AL.noU rfl ⟨_, rfl, rfl⟩ rfl ?_) | (refine AL.rpy rfl rfl rfl (rp_index_map Try.underlying22 inf69 rfl rfl rfl rfl (by assumption)) ?_) | (refine AL.rpy rfl rfl rfl (rp_index_own Try.underlying22 inf69 rfl rfl rfl rfl (by first | assumption | omega)) ?_) | (refine AL.rpy rfl rfl rfl (rd_index_sl Try.underlying22 inf69 rfl rfl rfl rfl (by assumption)) ?_) | (refine AL.rpy rfl rfl rfl (rp_index_own Try.underlying22 inf69 rfl rfl rfl (by omega) (by omega)) ?_))
    (first | (refine AL.noV rfl rfl rfl rfl ?_) | (refine AL.noU rfl ⟨_, rfl, rfl⟩ rfl ?_) | (refine AL.rpy rfl rfl rfl (rp_field_ref Try.underlying69 rfl rfl rfl inf3 (by decide) rfl) ?_) | (refine AL.rpy rfl rfl rfl (rp_field_ad Try.underlying69 rfl rfl rfl inf3 (by decide) rfl) ?_))
    (first | (refine AL.noV rfl rfl rfl rfl ?_) | (refine AL.noU rfl ⟨_, rfl, rfl⟩ rfl ?_) | (refine AL.rdy rfl rfl rfl (rd_load_ref Try.underlying3 rfl rfl rfl rfl rfl rfl) ?_) | (refine AL.rdy rfl rfl rfl (rd_load_ad Try.underlying3 rfl rfl rfl rfl) ?_) | (refine AL.rdy rfl rfl rfl (rd_load_map Try.underlying3 rfl rfl rfl rfl rfl rfl (by assumption)) ?_) | (refine AL.rdy rfl rfl rfl (rd_load_flat Try.underlying3 rfl rfl rfl rfl rfl rfl (fun _ => rfl) (by assumption) rfl) ?_))
    (first | (refine AL.noV rfl rfl rfl rfl ?_) | (refine AL.noU rfl ⟨_, rfl, rfl⟩ rfl ?_) | (refine AL.rpy rfl rfl rfl (rp_add rfl rfl rfl (by first | omega | (dsimp only; omega))) ?_))
    (first | (refine AL.noV rfl rfl rfl rfl ?_) | (refine AL.noU rfl ⟨_, rfl, rfl⟩ rfl ?_) | (refine AL.rpy rfl rfl rfl (rp_move rfl rfl) ?_))
    (first | (refine AL.noV rfl rfl rfl rfl ?_) | (refine AL.noU rfl ⟨_, rfl, rfl⟩ rfl ?_) | (refine AL.rpy rfl rfl rfl (rp_lssT rfl rfl rfl (by first | assumption | omega | (dsimp only; omega))) ?_) | (refine AL.rpy rfl rfl rfl (rp_lssF rfl rfl rfl (by first | assumption | omega | (dsimp only; omega))) ?_) | (refine AL.rpy rfl rfl rfl (rp_lss rfl rfl rfl) ?_))
    refine AL.rp rfl rfl (rp_pick rfl rfl rfl) ?_
    refine AL.nil ?_
    try simp only [thenS, S.put]
    refine AW.condF rfl ?_
    refine AW.skip ?_
    try simp only [thenS]
    refine AW.region ?_
    refine AL.rp rfl rfl (rp_move rfl rfl) ?_
    refine AL.rp rfl rfl (rp_add rfl rfl rfl (by first | omega | (dsimp only; omega))) ?_
    refine AL.rp rfl rfl (rp_assign rfl rfl) ?_
    refine AL.nil ?_
    try simp only [thenS, S.put]
    refine ⟨_, ?_, ⟨q + 1, b, by omega, hB2, rfl⟩, ?_⟩
    ·exact (Less.of rfl (by repeat (first | exact trivial | refine ⟨⟨_, rfl, Wk.refl _⟩, ?_⟩ | refine ⟨⟨_, rfl, Wk.nil _ _⟩, ?_⟩ | refine ⟨⟨_, rfl, Wk.junk _⟩, ?_⟩)) (by repeat (first | exact trivial | refine ⟨rfl, ?_⟩)) rfl)
    ·simp [S.nat, fnd]; omega
   ·by_cases h2 : (f : Int) = 1000000001
    ·have hB2 := hskip (.inr (.inl h2))
     refine AW.seq ?_
     refine AW.seq ?_
     refine AW.region ?_
     refine AL.rp rfl rfl (rp_move rfl rfl) ?_
     refine AL.rp rfl rfl (rp_move rfl rfl) ?_
     (first | (refine AL.rp rfl rfl (rp_lssT rfl rfl rfl (by first | assumption | omega | (dsimp only; omega))) ?_) | (refine AL.rp rfl rfl (rp_lssF rfl rfl rfl (by first | assumption | omega | (dsimp only; omega))) ?_) | (refine AL.rp rfl rfl (rp_lss rfl rfl rfl) ?_))
     refine AL.nil ?_
     try simp only [thenS, S.put]
     refine AW.condT rfl ?_
     refine AW.skip ?_
     try simp only [thenS]
     refine AW.seq ?_
     refine AW.block ?_
     refine AW.seq ?_
     refine AW.region ?_
     refine AL.rp rfl rfl (rp_move rfl rfl) ?_
     refine AL.rp rfl rfl (rp_move rfl rfl) ?_
     refine AL.rp rfl rfl (rp_move rfl rfl) ?_
     (first | (refine AL.rp rfl rfl (rp_len_map Try.underlying29 rfl rfl (by assumption)) ?_) | (refine AL.rp rfl rfl (rp_len_own Try.underlying29 rfl rfl) ?_) | (refine AL.rp rfl rfl (rp_len_sl Try.underlying29 rfl rfl) ?_) | (refine AL.rp rfl rfl (rp_len_nil Try.underlying29 rfl rfl) ?_) | (refine AL.rp rfl rfl (rp_len_str Try.underlying29 rfl rfl) ?_))
     refine AL.rp rfl rfl (rp_add rfl rfl rfl (by first | omega | (dsimp only; omega))) ?_
     refine AL.rp rfl rfl (rp_mulZ ((a1 : Int)) rfl rfl rfl (by omega) (by omega)) ?_
     refine AL.rp rfl rfl (rp_move rfl rfl) ?_
     (first | (refine AL.rp rfl rfl (rp_len_map Try.underlying29 rfl rfl (by assumption)) ?_) | (refine AL.rp rfl rfl (rp_len_own Try.underlying29 rfl rfl) ?_) | (refine AL.rp rfl rfl (rp_len_sl Try.underlying29 rfl rfl) ?_) | (refine AL.rp rfl rfl (rp_len_nil Try.underlying29 rfl rfl) ?_) | (refine AL.rp rfl rfl (rp_len_str Try.underlying29 rfl rfl) ?_))
     refine AL.rp rfl rfl (rp_add rfl rfl rfl (by first | omega | (dsimp only; omega))) ?_
     refine AL.rp rfl rfl (rp_move rfl rfl) ?_
     refine AL.rp rfl rfl (rp_mulZ ((a2 : Int)) rfl rfl rfl (by omega) (by omega)) ?_
     refine AL.rp rfl rfl (rp_move rfl rfl) ?_
     (first | (refine AL.rp rfl rfl (rp_len_map Try.underlying29 rfl rfl (by assumption)) ?_) | (refine AL.rp rfl rfl (rp_len_own Try.underlying29 rfl rfl) ?_) | (refine AL.rp rfl rfl (rp_len_sl Try.underlying29 rfl rfl) ?_) | (refine AL.rp rfl rfl (rp_len_nil Try.underlying29 rfl rfl) ?_) | (refine AL.rp rfl rfl (rp_len_str Try.underlying29 rfl rfl) ?_))
     refine AL.rp rfl rfl (rp_addZ ((p : Int)) rfl rfl rfl (by omega) (by omega)) ?_
     (first | (refine AL.rp rfl rfl (rp_index_map Try.underlying29 inf3 rfl rfl rfl rfl (by assumption)) ?_) | (refine AL.rp rfl rfl (rp_index_own Try.underlying29 inf3 rfl rfl rfl rfl (by first | assumption | omega)) ?_) | (refine AL.rp rfl rfl (rd_index_sl Try.underlying29 inf3 rfl rfl rfl rfl (by assumption)) ?_) | (refine AL.rp rfl rfl (rp_index_own Try.underlying29 inf3 rfl rfl rfl (by omega) (by omega)) ?_))
     (first | (refine AL.rd rfl rfl (rd_load_ref Try.underlying3 rfl rfl rfl rfl rfl rfl) ?_) | (refine AL.rd rfl rfl (rd_load_ad Try.underlying3 rfl rfl rfl rfl) ?_) | (refine AL.rd rfl rfl (rd_load_map Try.underlying3 rfl rfl rfl rfl rfl rfl (by assumption)) ?_) | (refine AL.rd rfl rfl (rd_load_flat Try.underlying3 rfl rfl rfl rfl rfl rfl (fun _ => rfl) (by assumption) rfl) ?_))
     refine AL.rp rfl rfl (rp_assign rfl rfl) ?_
     refine AL.nil ?_
     try simp only [thenS, S.put]
     refine AW.seq ?_
     refine AW.region ?_
     refine AL.rp rfl rfl (rp_move rfl rfl) ?_
     (first | (refine AL.rp rfl rfl (rp_neqT rfl rfl rfl (by first | assumption | omega | (dsimp only; omega))) ?_) | (refine AL.rp rfl rfl (rp_neqF rfl rfl rfl (by first | assumption | omega | (dsimp only; omega))) ?_) | (refine AL.rp rfl rfl (rp_neq rfl rfl rfl) ?_))
     refine AL.rp rfl rfl (rp_move rfl rfl) ?_
     (first | (refine AL.noV rfl rfl rfl rfl ?_) | (refine AL.noU rfl ⟨_, rfl, rfl⟩ rfl ?_) | (refine AL.rpy rfl rfl rfl (rp_field_ref Try.underlying24 rfl rfl rfl inf22 (by decide) rfl) ?_) | (refine AL.rpy rfl rfl rfl (rp_field_ad Try.underlying24 rfl rfl rfl inf22 (by decide) rfl) ?_))
     (first | (refine AL.noV rfl rfl rfl rfl ?_) | (refine AL.noU rfl ⟨_, rfl, rfl⟩ rfl ?_) | (refine AL.rdy rfl rfl rfl (rd_load_ref Try.underlying22 rfl rfl rfl rfl rfl rfl) ?_) | (refine AL.rdy rfl rfl rfl (rd_load_ad Try.underlying22 rfl rfl rfl rfl) ?_) | (refine AL.rdy rfl rfl rfl (rd_load_map Try.underlying22 rfl rfl rfl rfl rfl rfl (by assumption)) ?_) | (refine AL.rdy rfl rfl rfl (rd_load_flat Try.underlying22 rfl rfl rfl rfl rfl rfl (fun _ => rfl) (by assumption) rfl) ?_))
     (first | (refine AL.noV rfl rfl rfl rfl ?_) | (refine AL.noU rfl ⟨_, rfl, rfl⟩ rfl ?_) | (refine AL.rpy rfl rfl rfl (rp_move rfl rfl) ?_))
     (first | (refine AL.noV rfl rfl rfl rfl ?_) | (refine AL.noU rfl ⟨_, rfl, rfl⟩ rfl ?_) | (refine AL.rpy rfl rfl rfl (rp_index_map Try.underlying22 inf69 rfl rfl rfl rfl (by assumption)) ?_) | (refine AL.rpy rfl rfl rfl (rp_index_own Try.underlying22 inf69 rfl rfl rfl rfl (by first | assumption | omega)) ?_) | (refine AL.rpy rfl rfl rfl (rd_index_sl Try.underlying22 inf69 rfl rfl rfl rfl (by assumption)) ?_) | (refine AL.rpy rfl rfl rfl (rp_index_own Try.underlying22 inf69 rfl rfl rfl (by omega) (by omega)) ?_))
     (first | (refine AL.noV rfl rfl rfl rfl ?_) | (refine AL.noU rfl ⟨_, rfl, rfl⟩ rfl ?_) | (refine AL.rpy rfl rfl rfl (rp_field_ref Try.underlying69 rfl rfl rfl inf3 (by decide) rfl) ?_) | (refine AL.rpy rfl rfl rfl (rp_field_ad Try.underlying69 rfl rfl rfl inf3 (by decide) rfl) ?_))
     (first | (refine AL.noV rfl rfl rfl rfl ?_) | (refine AL.noU rfl ⟨_, rfl, rfl⟩ rfl ?_) | (refine AL.rdy rfl rfl rfl (rd_load_ref Try.underlying3 rfl rfl rfl rfl rfl rfl) ?_) | (refine AL.rdy rfl rfl rfl (rd_load_ad Try.underlying3 rfl rfl rfl rfl) ?_) | (refine AL.rdy rfl rfl rfl (rd_load_map Try.underlying3 rfl rfl rfl rfl rfl rfl (by assumption)) ?_) | (refine AL.rdy rfl rfl rfl (rd_load_flat Try.underlying3 rfl rfl rfl rfl rfl rfl (fun _ => rfl) (by assumption) rfl) ?_))
     (first | (refine AL.noV rfl rfl rfl rfl ?_) | (refine AL.noU rfl ⟨_, rfl, rfl⟩ rfl ?_) | (refine AL.rpy rfl rfl rfl (rp_neqT rfl rfl rfl (by first | assumption | omega | (dsimp only; omega))) ?_) | (refine AL.rpy rfl rfl rfl (rp_neqF rfl rfl rfl (by first | assumption | omega | (dsimp only; omega))) ?_) | (refine AL.rpy rfl rfl rfl (rp_neq rfl rfl rfl) ?_))
     refine AL.rp rfl rfl (rp_pick rfl rfl rfl) ?_
     refine AL.rp rfl rfl (rp_move rfl rfl) ?_
     (first | (refine AL.noV rfl rfl rfl rfl ?_) | (refine AL.noU rfl ⟨_, rfl, rfl⟩ rfl ?_) | (refine AL.rpy rfl rfl rfl (rp_move rfl rfl) ?_))
     (first | (refine AL.noV rfl rfl rfl rfl ?_) | (refine AL.noU rfl ⟨_, rfl, rfl⟩ rfl ?_) | (refine AL.rpy rfl rfl rfl (rp_field_ref Try.underlying24 rfl rfl rfl inf22 (by decide) rfl) ?_) | (refine AL.rpy rfl rfl rfl (rp_field_ad Try.underlying24 rfl rfl rfl inf22 (by decide) rfl) ?_))
     (first | (refine AL.noV rfl rfl rfl rfl ?_) | (refine AL.noU rfl ⟨_, rfl, rfl⟩ rfl ?_) | (refine AL.rdy rfl rfl rfl (rd_load_ref Try.underlying22 rfl rfl rfl rfl rfl rfl) ?_) | (refine AL.rdy rfl rfl rfl (rd_load_ad Try.underlying22 rfl rfl rfl rfl) ?_) | (refine AL.rdy rfl rfl rfl (rd_load_map Try.underlying22 rfl rfl rfl rfl rfl rfl (by assumption)) ?_) | (refine AL.rdy rfl rfl rfl (rd_load_flat Try.underlying22 rfl rfl rfl rfl rfl rfl (fun _ => rfl) (by assumption) rfl) ?_))
     (first | (refine AL.noV rfl rfl rfl rfl ?_) | (refine AL.noU rfl ⟨_, rfl, rfl⟩ rfl ?_) | (refine AL.rpy rfl rfl rfl (rp_move rfl rfl) ?_))
     (first | (refine AL.noV rfl rfl rfl rfl ?_) | (refine AL.noU rfl ⟨_, rfl, rfl⟩ rfl ?_) | (refine AL.rpy rfl rfl rfl (rp_index_map Try.underlying22 inf69 rfl rfl rfl rfl (by assumption)) ?_) | (refine AL.rpy rfl rfl rfl (rp_index_own Try.underlying22 inf69 rfl rfl rfl rfl (by first | assumption | omega)) ?_) | (refine AL.rpy rfl rfl rfl (rd_index_sl Try.underlying22 inf69 rfl rfl rfl rfl (by assumption)) ?_) | (refine AL.rpy rfl rfl rfl (rp_index_own Try.underlying22 inf69 rfl rfl rfl (by omega) (by omega)) ?_))
     (first | (refine AL.noV rfl rfl rfl rfl ?_) | (refine AL.noU rfl ⟨_, rfl, rfl⟩ rfl ?_) | (refine AL.rpy rfl rfl rfl (rp_field_ref Try.underlying69 rfl rfl rfl inf3 (by decide) rfl) ?_) | (refine AL.rpy rfl rfl rfl (rp_field_ad Try.underlying69 rfl rfl rfl inf3 (by decide) rfl) ?_))
     (first | (refine AL.noV rfl rfl rfl rfl ?_) | (refine AL.noU rfl ⟨_, rfl, rfl⟩ rfl ?_) | (refine AL.rdy rfl rfl rfl (rd_load_ref Try.underlying3 rfl rfl rfl rfl rfl rfl) ?_) | (refine AL.rdy rfl rfl rfl (rd_load_ad Try.underlying3 rfl rfl rfl rfl) ?_) | (refine AL.rdy rfl rfl rfl (rd_load_map Try.underlying3 rfl rfl rfl rfl rfl rfl (by assumption)) ?_) | (refine AL.rdy rfl rfl rfl (rd_load_flat Try.underlying3 rfl rfl rfl rfl rfl rfl (fun _ => rfl) (by assumption) rfl) ?_))
     (first | (refine AL.noV rfl rfl rfl rfl ?_) | (refine AL.noU rfl ⟨_, rfl, rfl⟩ rfl ?_) | (refine AL.rpy rfl rfl rfl (rp_add rfl rfl rfl (by first | omega | (dsimp only; omega))) ?_))
     (first | (refine AL.noV rfl rfl rfl rfl ?_) | (refine AL.noU rfl ⟨_, rfl, rfl⟩ rfl ?_) | (refine AL.rpy rfl rfl rfl (rp_move rfl rfl) ?_))
     (first | (refine AL.noV rfl rfl rfl rfl ?_) | (refine AL.noU rfl ⟨_, rfl, rfl⟩ rfl ?_) | (refine AL.rpy rfl rfl rfl (rp_lssT rfl rfl rfl (by first | assumption | omega | (dsimp only; omega))) ?_) | (refine AL.rpy rfl rfl rfl (rp_lssF rfl rfl rfl (by first | assumption | omega | (dsimp only; omega))) ?_) | (refine AL.rpy rfl rfl rfl (rp_lss rfl rfl rfl) ?_))
     refine AL.rp rfl rfl (rp_pick rfl rfl rfl) ?_
     refine AL.nil ?_
     try simp only [thenS, S.put]
     refine AW.condF rfl ?_
     refine AW.skip ?_
     try simp only [thenS]
     refine AW.region ?_
     refine AL.rp rfl rfl (rp_move rfl rfl) ?_
     refine AL.rp rfl rfl (rp_add rfl rfl rfl (by first | omega | (dsimp only; omega))) ?_
     refine AL.rp rfl rfl (rp_assign rfl rfl) ?_
     refine AL.nil ?_
     try simp only [thenS, S.put]
     refine ⟨_, ?_, ⟨q + 1, b, by omega, hB2, rfl⟩, ?_⟩
     ·exact (Less.of rfl (by repeat (first | exact trivial | refine ⟨⟨_, rfl, Wk.refl _⟩, ?_⟩ | refine ⟨⟨_, rfl, Wk.nil _ _⟩, ?_⟩ | refine ⟨⟨_, rfl, Wk.junk _⟩, ?_⟩)) (by repeat (first | exact trivial | refine ⟨rfl, ?_⟩)) rfl)
     ·simp [S.nat, fnd]; omega
    ·by_cases h3 : d + f < b
     ·have hB2 := hput2 (z := d + f) h1 h2 (by omega) h3
      refine AW.seq ?_
      refine AW.seq ?_
      refine AW.region ?_
      refine AL.rp rfl rfl (rp_move rfl rfl) ?_
      refine AL.rp rfl rfl (rp_move rfl rfl) ?_
      (first | (refine AL.rp rfl rfl (rp_lssT rfl rfl rfl (by first | assumption | omega | (dsimp only; omega))) ?_) | (refine AL.rp rfl rfl (rp_lssF rfl rfl rfl (by first | assumption | omega | (dsimp only; omega))) ?_) | (refine AL.rp rfl rfl (rp_lss rfl rfl rfl) ?_))
      refine AL.nil ?_
      try simp only [thenS, S.put]
      refine AW.condT rfl ?_
      refine AW.skip ?_
      try simp only [thenS]
      refine AW.seq ?_
      refine AW.block ?_
      refine AW.seq ?_
      refine AW.region ?_
      refine AL.rp rfl rfl (rp_move rfl rfl) ?_
      refine AL.rp rfl rfl (rp_move rfl rfl) ?_
      refine AL.rp rfl rfl (rp_move rfl rfl) ?_
      (first | (refine AL.rp rfl rfl (rp_len_map Try.underlying29 rfl rfl (by assumption)) ?_) | (refine AL.rp rfl rfl (rp_len_own Try.underlying29 rfl rfl) ?_) | (refine AL.rp rfl rfl (rp_len_sl Try.underlying29 rfl rfl) ?_) | (refine AL.rp rfl rfl (rp_len_nil Try.underlying29 rfl rfl) ?_) | (refine AL.rp rfl rfl (rp_len_str Try.underlying29 rfl rfl) ?_))
      refine AL.rp rfl rfl (rp_add rfl rfl rfl (by first | omega | (dsimp only; omega))) ?_
      refine AL.rp rfl rfl (rp_mulZ ((a1 : Int)) rfl rfl rfl (by omega) (by omega)) ?_
      refine AL.rp rfl rfl (rp_move rfl rfl) ?_
      (first | (refine AL.rp rfl rfl (rp_len_map Try.underlying29 rfl rfl (by assumption)) ?_) | (refine AL.rp rfl rfl (rp_len_own Try.underlying29 rfl rfl) ?_) | (refine AL.rp rfl rfl (rp_len_sl Try.underlying29 rfl rfl) ?_) | (refine AL.rp rfl rfl (rp_len_nil Try.underlying29 rfl rfl) ?_) | (refine AL.rp rfl rfl (rp_len_str Try.underlying29 rfl rfl) ?_))
      refine AL.rp rfl rfl (rp_add rfl rfl rfl (by first | omega | (dsimp only; omega))) ?_
      refine AL.rp rfl rfl (rp_move rfl rfl) ?_
      refine AL.rp rfl rfl (rp_mulZ ((a2 : Int)) rfl rfl rfl (by omega) (by omega)) ?_
      refine AL.rp rfl rfl (rp_move rfl rfl) ?_
      (first | (refine AL.rp rfl rfl (rp_len_map Try.underlying29 rfl rfl (by assumption)) ?_) | (refine AL.rp rfl rfl (rp_len_own Try.underlying29 rfl rfl) ?_) | (refine AL.rp rfl rfl (rp_len_sl Try.underlying29 rfl rfl) ?_) | (refine AL.rp rfl rfl (rp_len_nil Try.underlying29 rfl rfl) ?_) | (refine AL.rp rfl rfl (rp_len_str Try.underlying29 rfl rfl) ?_))
      refine AL.rp rfl rfl (rp_addZ ((p : Int)) rfl rfl rfl (by omega) (by omega)) ?_
      (first | (refine AL.rp rfl rfl (rp_index_map Try.underlying29 inf3 rfl rfl rfl rfl (by assumption)) ?_) | (refine AL.rp rfl rfl (rp_index_own Try.underlying29 inf3 rfl rfl rfl rfl (by first | assumption | omega)) ?_) | (refine AL.rp rfl rfl (rd_index_sl Try.underlying29 inf3 rfl rfl rfl rfl (by assumption)) ?_) | (refine AL.rp rfl rfl (rp_index_own Try.underlying29 inf3 rfl rfl rfl (by omega) (by omega)) ?_))
      (first | (refine AL.rd rfl rfl (rd_load_ref Try.underlying3 rfl rfl rfl rfl rfl rfl) ?_) | (refine AL.rd rfl rfl (rd_load_ad Try.underlying3 rfl rfl rfl rfl) ?_) | (refine AL.rd rfl rfl (rd_load_map Try.underlying3 rfl rfl rfl rfl rfl rfl (by assumption)) ?_) | (refine AL.rd rfl rfl (rd_load_flat Try.underlying3 rfl rfl rfl rfl rfl rfl (fun _ => rfl) (by assumption) rfl) ?_))
      refine AL.rp rfl rfl (rp_assign rfl rfl) ?_
      refine AL.nil ?_
      try simp only [thenS, S.put]
      refine AW.seq ?_
      refine AW.region ?_
      refine AL.rp rfl rfl (rp_move rfl rfl) ?_
      (first | (refine AL.rp rfl rfl (rp_neqT rfl rfl rfl (by first | assumption | omega | (dsimp only; omega))) ?_) | (refine AL.rp rfl rfl (rp_neqF rfl rfl rfl (by first | assumption | omega | (dsimp only; omega))) ?_) | (refine AL.rp rfl rfl (rp_neq rfl rfl rfl) ?_))
      refine AL.rp rfl rfl (rp_move rfl rfl) ?_
      (first | (refine AL.noV rfl rfl rfl rfl ?_) | (refine AL.noU rfl ⟨_, rfl, rfl⟩ rfl ?_) | (refine AL.rpy rfl rfl rfl (rp_field_ref Try.underlying24 rfl rfl rfl inf22 (by decide) rfl) ?_) | (refine AL.rpy rfl rfl rfl (rp_field_ad Try.underlying24 rfl rfl rfl inf22 (by decide) rfl) ?_))
      (first | (refine AL.noV rfl rfl rfl rfl ?_) | (refine AL.noU rfl ⟨_, rfl, rfl⟩ rfl ?_) | (refine AL.rdy rfl rfl rfl (rd_load_ref Try.underlying22 rfl rfl rfl rfl rfl rfl) ?_) | (refine AL.rdy rfl rfl rfl (rd_load_ad Try.underlying22 rfl rfl rfl rfl) ?_) | (refine AL.rdy rfl rfl rfl (rd_load_map Try.underlying22 rfl rfl rfl rfl rfl rfl (by assumption)) ?_) | (refine AL.rdy rfl rfl rfl (rd_load_flat Try.underlying22 rfl rfl rfl rfl rfl rfl (fun _ => rfl) (by assumption) rfl) ?_))
      (first | (refine AL.noV rfl rfl rfl rfl ?_) | (refine AL.noU rfl ⟨_, rfl, rfl⟩ rfl ?_) | (refine AL.rpy rfl rfl rfl (rp_move rfl rfl) ?_))
      (first | (refine AL.noV rfl rfl rfl rfl ?_) | (refine AL.noU rfl ⟨_, rfl, rfl⟩ rfl ?_) | (refine AL.rpy rfl rfl rfl (rp_index_map Try.underlying22 inf69 rfl rfl rfl rfl (by assumption)) ?_) | (refine AL.rpy rfl rfl rfl (rp_index_own Try.underlying22 inf69 rfl rfl rfl rfl (by first | assumption | omega)) ?_) | (refine AL.rpy rfl rfl rfl (rd_index_sl Try.underlying22 inf69 rfl rfl rfl rfl (by assumption)) ?_) | (refine AL.rpy rfl rfl rfl (rp_index_own Try.underlying22 inf69 rfl rfl rfl (by omega) (by omega)) ?_))
      (first | (refine AL.noV rfl rfl rfl rfl ?_) | (refine AL.noU rfl ⟨_, rfl, rfl⟩ rfl ?_) | (refine AL.rpy rfl rfl rfl (rp_field_ref Try.underlying69 rfl rfl rfl inf3 (by decide) rfl) ?_) | (refine AL.rpy rfl rfl rfl (rp_field_ad Try.underlying69 rfl rfl rfl inf3 (by decide) rfl) ?_))
      (first | (refine AL.noV rfl rfl rfl rfl ?_) | (refine AL.noU rfl ⟨_, rfl, rfl⟩ rfl ?_) | (refine AL.rdy rfl rfl rfl (rd_load_ref Try.underlying3 rfl rfl rfl rfl rfl rfl) ?_) | (refine AL.rdy rfl rfl rfl (rd_load_ad Try.underlying3 rfl rfl rfl rfl) ?_) | (refine AL.rdy rfl rfl rfl (rd_load_map Try.underlying3 rfl rfl rfl rfl rfl rfl (by assumption)) ?_) | (refine AL.rdy rfl rfl rfl (rd_load_flat Try.underlying3 rfl rfl rfl rfl rfl rfl (fun _ => rfl) (by assumption) rfl) ?_))
      (first | (refine AL.noV rfl rfl rfl rfl ?_) | (refine AL.noU rfl ⟨_, rfl, rfl⟩ rfl ?_) | (refine AL.rpy rfl rfl rfl (rp_neqT rfl rfl rfl (by first | assumption | omega | (dsimp only; omega))) ?_) | (refine AL.rpy rfl rfl rfl (rp_neqF rfl rfl rfl (by first | assumption | omega | (dsimp only; omega))) ?_) | (refine AL.rpy rfl rfl rfl (rp_neq rfl rfl rfl) ?_))
      refine AL.rp rfl rfl (rp_pick rfl rfl rfl) ?_
      refine AL.rp rfl rfl (rp_move rfl rfl) ?_
      (first | (refine AL.noV rfl rfl rfl rfl ?_) | (refine AL.noU rfl ⟨_, rfl, rfl⟩ rfl ?_) | (refine AL.rpy rfl rfl rfl (rp_move rfl rfl) ?_))
      (first | (refine AL.noV rfl rfl rfl rfl ?_) | (refine AL.noU rfl ⟨_, rfl, rfl⟩ rfl ?_) | (refine AL.rpy rfl rfl rfl (rp_field_ref Try.underlying24 rfl rfl rfl inf22 (by decide) rfl) ?_) | (refine AL.rpy rfl rfl rfl (rp_field_ad Try.underlying24 rfl rfl rfl inf22 (by decide) rfl) ?_))
      (first | (refine AL.noV rfl rfl rfl rfl ?_) | (refine AL.noU rfl ⟨_, rfl, rfl⟩ rfl ?_) | (refine AL.rdy rfl rfl rfl (rd_load_ref Try.underlying22 rfl rfl rfl rfl rfl rfl) ?_) | (refine AL.rdy rfl rfl rfl (rd_load_ad Try.underlying22 rfl rfl rfl rfl) ?_) | (refine AL.rdy rfl rfl rfl (rd_load_map Try.underlying22 rfl rfl rfl rfl rfl rfl (by assumption)) ?_) | (refine AL.rdy rfl rfl rfl (rd_load_flat Try.underlying22 rfl rfl rfl rfl rfl rfl (fun _ => rfl) (by assumption) rfl) ?_))
      (first | (refine AL.noV rfl rfl rfl rfl ?_) | (refine AL.noU rfl ⟨_, rfl, rfl⟩ rfl ?_) | (refine AL.rpy rfl rfl rfl (rp_move rfl rfl) ?_))
      (first | (refine AL.noV rfl rfl rfl rfl ?_) | (refine AL.noU rfl ⟨_, rfl, rfl⟩ rfl ?_) | (refine AL.rpy rfl rfl rfl (rp_index_map Try.underlying22 inf69 rfl rfl rfl rfl (by assumption)) ?_) | (refine AL.rpy rfl rfl rfl (rp_index_own Try.underlying22 inf69 rfl rfl rfl rfl (by first | assumption | omega)) ?_) | (refine AL.rpy rfl rfl rfl (rd_index_sl Try.underlying22 inf69 rfl rfl rfl rfl (by assumption)) ?_) | (refine AL.rpy rfl rfl rfl (rp_index_own Try.underlying22 inf69 rfl rfl rfl (by omega) (by omega)) ?_))
      (first | (refine AL.noV rfl rfl rfl rfl ?_) | (refine AL.noU rfl ⟨_, rfl, rfl⟩ rfl ?_) | (refine AL.rpy rfl rfl rfl (rp_field_ref Try.underlying69 rfl rfl rfl inf3 (by decide) rfl) ?_) | (refine AL.rpy rfl rfl rfl (rp_field_ad Try.underlying69 rfl rfl rfl inf3 (by decide) rfl) ?_))
      (first | (refine AL.noV rfl rfl rfl rfl ?_) | (refine AL.noU rfl ⟨_, rfl, rfl⟩ rfl ?_) | (refine AL.rdy rfl rfl rfl (rd_load_ref Try.underlying3 rfl rfl rfl rfl rfl rfl) ?_) | (refine AL.rdy rfl rfl rfl (rd_load_ad Try.underlying3 rfl rfl rfl rfl) ?_) | (refine AL.rdy rfl rfl rfl (rd_load_map Try.underlying3 rfl rfl rfl rfl rfl rfl (by assumption)) ?_) | (refine AL.rdy rfl rfl rfl (rd_load_flat Try.underlying3 rfl rfl rfl rfl rfl rfl (fun _ => rfl) (by assumption) rfl) ?_))
      (first | (refine AL.noV rfl rfl rfl rfl ?_) | (refine AL.noU rfl ⟨_, rfl, rfl⟩ rfl ?_) | (refine AL.rpy rfl rfl rfl (rp_add rfl rfl rfl (by first | omega | (dsimp only; omega))) ?_))
      (first | (refine AL.noV rfl rfl rfl rfl ?_) | (refine AL.noU rfl ⟨_, rfl, rfl⟩ rfl ?_) | (refine AL.rpy rfl rfl rfl (rp_move rfl rfl) ?_))
      (first | (refine AL.noV rfl rfl rfl rfl ?_) | (refine AL.noU rfl ⟨_, rfl, rfl⟩ rfl ?_) | (refine AL.rpy rfl rfl rfl (rp_lssT rfl rfl rfl (by first | assumption | omega | (dsimp only; omega))) ?_) | (refine AL.rpy rfl rfl rfl (rp_lssF rfl rfl rfl (by first | assumption | omega | (dsimp only; omega))) ?_) | (refine AL.rpy rfl rfl rfl (rp_lss rfl rfl rfl) ?_))
      refine AL.rp rfl rfl (rp_pick rfl rfl rfl) ?_
      refine AL.nil ?_
      try simp only [thenS, S.put]
      refine AW.condT rfl ?_
      refine AW.region ?_
      refine AL.rp rfl rfl (rp_move rfl rfl) ?_
      (first | (refine AL.rp rfl rfl (rp_field_ref Try.underlying24 rfl rfl rfl inf22 (by decide) rfl) ?_) | (refine AL.rp rfl rfl (rp_field_ad Try.underlying24 rfl rfl rfl inf22 (by decide) rfl) ?_))
      (first | (refine AL.rd rfl rfl (rd_load_ref Try.underlying22 rfl rfl rfl rfl rfl rfl) ?_) | (refine AL.rd rfl rfl (rd_load_ad Try.underlying22 rfl rfl rfl rfl) ?_) | (refine AL.rd rfl rfl (rd_load_map Try.underlying22 rfl rfl rfl rfl rfl rfl (by assumption)) ?_) | (refine AL.rd rfl rfl (rd_load_flat Try.underlying22 rfl rfl rfl rfl rfl rfl (fun _ => rfl) (by assumption) rfl) ?_))
      refine AL.rp rfl rfl (rp_move rfl rfl) ?_
      (first | (refine AL.rp rfl rfl (rp_index_map Try.underlying22 inf69 rfl rfl rfl rfl (by assumption)) ?_) | (refine AL.rp rfl rfl (rp_index_own Try.underlying22 inf69 rfl rfl rfl rfl (by first | assumption | omega)) ?_) | (refine AL.rp rfl rfl (rd_index_sl Try.underlying22 inf69 rfl rfl rfl rfl (by assumption)) ?_) | (refine AL.rp rfl rfl (rp_index_own Try.underlying22 inf69 rfl rfl rfl (by omega) (by omega)) ?_))
      (first | (refine AL.rp rfl rfl (rp_field_ref Try.underlying69 rfl rfl rfl inf3 (by decide) rfl) ?_) | (refine AL.rp rfl rfl (rp_field_ad Try.underlying69 rfl rfl rfl inf3 (by decide) rfl) ?_))
      (first | (refine AL.rd rfl rfl (rd_load_ref Try.underlying3 rfl rfl rfl rfl rfl rfl) ?_) | (refine AL.rd rfl rfl (rd_load_ad Try.underlying3 rfl rfl rfl rfl) ?_) | (refine AL.rd rfl rfl (rd_load_map Try.underlying3 rfl rfl rfl rfl rfl rfl (by assumption)) ?_) | (refine AL.rd rfl rfl (rd_load_flat Try.underlying3 rfl rfl rfl rfl rfl rfl (fun _ => rfl) (by assumption) rfl) ?_))
      refine AL.rp rfl rfl (rp_add rfl rfl rfl (by first | omega | (dsimp only; omega))) ?_
      refine AL.rp rfl rfl (rp_assign rfl rfl) ?_
      refine AL.nil ?_
      try simp only [thenS, S.put]
      refine AW.region ?_
      refine AL.rp rfl rfl (rp_move rfl rfl) ?_
      refine AL.rp rfl rfl (rp_add rfl rfl rfl (by first | omega | (dsimp only; omega))) ?_
      refine AL.rp rfl rfl (rp_assign rfl rfl) ?_
      refine AL.nil ?_
      try simp only [thenS, S.put]
      refine ⟨_, ?_, ⟨q + 1, d + f, by omega, hB2, rfl⟩, ?_⟩
      ·exact (Less.of rfl (by repeat (first | exact trivial | refine ⟨⟨_, rfl, Wk.refl _⟩, ?_⟩ | refine ⟨⟨_, rfl, Wk.nil _ _⟩, ?_⟩ | refine ⟨⟨_, rfl, Wk.junk _⟩, ?_⟩)) (by repeat (first | exact trivial | refine ⟨rfl, ?_⟩)) rfl)
      ·simp [S.nat, fnd]; omega
     ·have hB2 := hskip (.inr (.inr fun z hz => by omega))
      refine AW.seq ?_
      refine AW.seq ?_
      refine AW.region ?_
      refine AL.rp rfl rfl (rp_move rfl rfl) ?_
      refine AL.rp rfl rfl (rp_move rfl rfl) ?_
      (first | (refine AL.rp rfl rfl (rp_lssT rfl rfl rfl (by first | assumption | omega | (dsimp only; omega))) ?_) | (refine AL.rp rfl rfl (rp_lssF rfl rfl rfl (by first | assumption | omega | (dsimp only; omega))) ?_) | (refine AL.rp rfl rfl (rp_lss rfl rfl rfl) ?_))
      refine AL.nil ?_
      try simp only [thenS, S.put]
      refine AW.condT rfl ?_
      refine AW.skip ?_
      try simp only [thenS]
      refine AW.seq ?_
      refine AW.block ?_
      refine AW.seq ?_
      refine AW.region ?_
      refine AL.rp rfl rfl (rp_move rfl rfl) ?_
      refine AL.rp rfl rfl (rp_move rfl rfl) ?_
      refine AL.rp rfl rfl (rp_move rfl rfl) ?_
      (first | (refine AL.rp rfl rfl (rp_len_map Try.underlying29 rfl rfl (by assumption)) ?_) | (refine AL.rp rfl rfl (rp_len_own Try.underlying29 rfl rfl) ?_) | (refine AL.rp rfl rfl (rp_len_sl Try.underlying29 rfl rfl) ?_) | (refine AL.rp rfl rfl (rp_len_nil Try.underlying29 rfl rfl) ?_) | (refine AL.rp rfl rfl (rp_len_str Try.underlying29 rfl rfl) ?_))
      refine AL.rp rfl rfl (rp_add rfl rfl rfl (by first | omega | (dsimp only; omega))) ?_
      refine AL.rp rfl rfl (rp_mulZ ((a1 : Int)) rfl rfl rfl (by omega) (by omega)) ?_
      refine AL.rp rfl rfl (rp_move rfl rfl) ?_
      (first | (refine AL.rp rfl rfl (rp_len_map Try.underlying29 rfl rfl (by assumption)) ?_) | (refine AL.rp rfl rfl (rp_len_own Try.underlying29 rfl rfl) ?_) | (refine AL.rp rfl rfl (rp_len_sl Try.underlying29 rfl rfl) ?_) | (refine AL.rp rfl rfl (rp_len_nil Try.underlying29 rfl rfl) ?_) | (refine AL.rp rfl rfl (rp_len_str Try.underlying29 rfl rfl) ?_))
      refine AL.rp rfl rfl (rp_add rfl rfl rfl (by first | omega | (dsimp only; omega))) ?_
      refine AL.rp rfl rfl (rp_move rfl rfl) ?_
      refine AL.rp rfl rfl (rp_mulZ ((a2 : Int)) rfl rfl rfl (by omega) (by omega)) ?_
      refine AL.rp rfl rfl (rp_move rfl rfl) ?_
      (first | (refine AL.rp rfl rfl (rp_len_map Try.underlying29 rfl rfl (by assumption)) ?_) | (refine AL.rp rfl rfl (rp_len_own Try.underlying29 rfl rfl) ?_) | (refine AL.rp rfl rfl (rp_len_sl Try.underlying29 rfl rfl) ?_) | (refine AL.rp rfl rfl (rp_len_nil Try.underlying29 rfl rfl) ?_) | (refine AL.rp rfl rfl (rp_len_str Try.underlying29 rfl rfl) ?_))
      refine AL.rp rfl rfl (rp_addZ ((p : Int)) rfl rfl rfl (by omega) (by omega)) ?_
      (first | (refine AL.rp rfl rfl (rp_index_map Try.underlying29 inf3 rfl rfl rfl rfl (by assumption)) ?_) | (refine AL.rp rfl rfl (rp_index_own Try.underlying29 inf3 rfl rfl rfl rfl (by first | assumption | omega)) ?_) | (refine AL.rp rfl rfl (rd_index_sl Try.underlying29 inf3 rfl rfl rfl rfl (by assumption)) ?_) | (refine AL.rp rfl rfl (rp_index_own Try.underlying29 inf3 rfl rfl rfl (by omega) (by omega)) ?_))
      (first | (refine AL.rd rfl rfl (rd_load_ref Try.underlying3 rfl rfl rfl rfl rfl rfl) ?_) | (refine AL.rd rfl rfl (rd_load_ad Try.underlying3 rfl rfl rfl rfl) ?_) | (refine AL.rd rfl rfl (rd_load_map Try.underlying3 rfl rfl rfl rfl rfl rfl (by assumption)) ?_) | (refine AL.rd rfl rfl (rd_load_flat Try.underlying3 rfl rfl rfl rfl rfl rfl (fun _ => rfl) (by assumption) rfl) ?_))
      refine AL.rp rfl rfl (rp_assign rfl rfl) ?_
      refine AL.nil ?_
      try simp only [thenS, S.put]
      refine AW.seq ?_
      refine AW.region ?_
      refine AL.rp rfl rfl (rp_move rfl rfl) ?_
      (first | (refine AL.rp rfl rfl (rp_neqT rfl rfl rfl (by first | assumption | omega | (dsimp only; omega))) ?_) | (refine AL.rp rfl rfl (rp_neqF rfl rfl rfl (by first | assumption | omega | (dsimp only; omega))) ?_) | (refine AL.rp rfl rfl (rp_neq rfl rfl rfl) ?_))
      refine AL.rp rfl rfl (rp_move rfl rfl) ?_
      (first | (refine AL.noV rfl rfl rfl rfl ?_) | (refine AL.noU rfl ⟨_, rfl, rfl⟩ rfl ?_) | (refine AL.rpy rfl rfl rfl (rp_field_ref Try.underlying24 rfl rfl rfl inf22 (by decide) rfl) ?_) | (refine AL.rpy rfl rfl rfl (rp_field_ad Try.underlying24 rfl rfl rfl inf22 (by decide) rfl) ?_))
      (first | (refine AL.noV rfl rfl rfl rfl ?_) | (refine AL.noU rfl ⟨_, rfl, rfl⟩ rfl ?_) | (refine AL.rdy rfl rfl rfl (rd_load_ref Try.underlying22 rfl rfl rfl rfl rfl rfl) ?_) | (refine AL.rdy rfl rfl rfl (rd_load_ad Try.underlying22 rfl rfl rfl rfl) ?_) | (refine AL.rdy rfl rfl rfl (rd_load_map Try.underlying22 rfl rfl rfl rfl rfl rfl (by assumption)) ?_) | (refine AL.rdy rfl rfl rfl (rd_load_flat Try.underlying22 rfl rfl rfl rfl rfl rfl (fun _ => rfl) (by assumption) rfl) ?_))
      (first | (refine AL.noV rfl rfl rfl rfl ?_) | (refine AL.noU rfl ⟨_, rfl, rfl⟩ rfl ?_) | (refine AL.rpy rfl rfl rfl (rp_move rfl rfl) ?_))
      (first | (refine AL.noV rfl rfl rfl rfl ?_) | (refine AL.noU rfl ⟨_, rfl, rfl⟩ rfl ?_) | (refine AL.rpy rfl rfl rfl (rp_index_map Try.underlying22 inf69 rfl rfl rfl rfl (by assumption)) ?_) | (refine AL.rpy rfl rfl rfl (rp_index_own Try.underlying22 inf69 rfl rfl rfl rfl (by first | assumption | omega)) ?_) | (refine AL.rpy rfl rfl rfl (rd_index_sl Try.underlying22 inf69 rfl rfl rfl rfl (by assumption)) ?_) | (refine AL.rpy rfl rfl rfl (rp_index_own Try.underlying22 inf69 rfl rfl rfl (by omega) (by omega)) ?_))
      (first | (refine AL.noV rfl rfl rfl rfl ?_) | (refine AL.noU rfl ⟨_, rfl, rfl⟩ rfl ?_) | (refine AL.rpy rfl rfl rfl (rp_field_ref Try.underlying69 rfl rfl rfl inf3 (by decide) rfl) ?_) | (refine AL.rpy rfl rfl rfl (rp_field_ad Try.underlying69 rfl rfl rfl inf3 (by decide) rfl) ?_))
      (first | (refine AL.noV rfl rfl rfl rfl ?_) | (refine AL.noU rfl ⟨_, rfl, rfl⟩ rfl ?_) | (refine AL.rdy rfl rfl rfl (rd_load_ref Try.underlying3 rfl rfl rfl rfl rfl rfl) ?_) | (refine AL.rdy rfl rfl rfl (rd_load_ad Try.underlying3 rfl rfl rfl rfl) ?_) | (refine AL.rdy rfl rfl rfl (rd_load_map Try.underlying3 rfl rfl rfl rfl rfl rfl (by assumption)) ?_) | (refine AL.rdy rfl rfl rfl (rd_load_flat Try.underlying3 rfl rfl rfl rfl rfl rfl (fun _ => rfl) (by assumption) rfl) ?_))
      (first | (refine AL.noV rfl rfl rfl rfl ?_) | (refine AL.noU rfl ⟨_, rfl, rfl⟩ rfl ?_) | (refine AL.rpy rfl rfl rfl (rp_neqT rfl rfl rfl (by first | assumption | omega | (dsimp only; omega))) ?_) | (refine AL.rpy rfl rfl rfl (rp_neqF rfl rfl rfl (by first | assumption | omega | (dsimp only; omega))) ?_) | (refine AL.rpy rfl rfl rfl (rp_neq rfl rfl rfl) ?_))
      refine AL.rp rfl rfl (rp_pick rfl rfl rfl) ?_
      refine AL.rp rfl rfl (rp_move rfl rfl) ?_
      (first | (refine AL.noV rfl rfl rfl rfl ?_) | (refine AL.noU rfl ⟨_, rfl, rfl⟩ rfl ?_) | (refine AL.rpy rfl rfl rfl (rp_move rfl rfl) ?_))
      (first | (refine AL.noV rfl rfl rfl rfl ?_) | (refine AL.noU rfl ⟨_, rfl, rfl⟩ rfl ?_) | (refine AL.rpy rfl rfl rfl (rp_field_ref Try.underlying24 rfl rfl rfl inf22 (by decide) rfl) ?_) | (refine AL.rpy rfl rfl rfl (rp_field_ad Try.underlying24 rfl rfl rfl inf22 (by decide) rfl) ?_))
      (first | (refine AL.noV rfl rfl rfl rfl ?_) | (refine AL.noU rfl ⟨_, rfl, rfl⟩ rfl ?_) | (refine AL.rdy rfl rfl rfl (rd_load_ref Try.underlying22 rfl rfl rfl rfl rfl rfl) ?_) | (refine AL.rdy rfl rfl rfl (rd_load_ad Try.underlying22 rfl rfl rfl rfl) ?_) | (refine AL.rdy rfl rfl rfl (rd_load_map Try.underlying22 rfl rfl rfl rfl rfl rfl (by assumption)) ?_) | (refine AL.rdy rfl rfl rfl (rd_load_flat Try.underlying22 rfl rfl rfl rfl rfl rfl (fun _ => rfl) (by assumption) rfl) ?_))
      (first | (refine AL.noV rfl rfl rfl rfl ?_) | (refine AL.noU rfl ⟨_, rfl, rfl⟩ rfl ?_) | (refine AL.rpy rfl rfl rfl (rp_move rfl rfl) ?_))
      (first | (refine AL.noV rfl rfl rfl rfl ?_) | (refine AL.noU rfl ⟨_, rfl, rfl⟩ rfl ?_) | (refine AL.rpy rfl rfl rfl (rp_index_map Try.underlying22 inf69 rfl rfl rfl rfl (by assumption)) ?_) | (refine AL.rpy rfl rfl rfl (rp_index_own Try.underlying22 inf69 rfl rfl rfl rfl (by first | assumption | omega)) ?_) | (refine AL.rpy rfl rfl rfl (rd_index_sl Try.underlying22 inf69 rfl rfl rfl rfl (by assumption)) ?_) | (refine AL.rpy rfl rfl rfl (rp_index_own Try.underlying22 inf69 rfl rfl rfl (by omega) (by omega)) ?_))
      (first | (refine AL.noV rfl rfl rfl rfl ?_) | (refine AL.noU rfl ⟨_, rfl, rfl⟩ rfl ?_) | (refine AL.rpy rfl rfl rfl (rp_field_ref Try.underlying69 rfl rfl rfl inf3 (by decide) rfl) ?_) | (refine AL.rpy rfl rfl rfl (rp_field_ad Try.underlying69 rfl rfl rfl inf3 (by decide) rfl) ?_))
      (first | (refine AL.noV rfl rfl rfl rfl ?_) | (refine AL.noU rfl ⟨_, rfl, rfl⟩ rfl ?_) | (refine AL.rdy rfl rfl rfl (rd_load_ref Try.underlying3 rfl rfl rfl rfl rfl rfl) ?_) | (refine AL.rdy rfl rfl rfl (rd_load_ad Try.underlying3 rfl rfl rfl rfl) ?_) | (refine AL.rdy rfl rfl rfl (rd_load_map Try.underlying3 rfl rfl rfl rfl rfl rfl (by assumption)) ?_) | (refine AL.rdy rfl rfl rfl (rd_load_flat Try.underlying3 rfl rfl rfl rfl rfl rfl (fun _ => rfl) (by assumption) rfl) ?_))
      (first | (refine AL.noV rfl rfl rfl rfl ?_) | (refine AL.noU rfl ⟨_, rfl, rfl⟩ rfl ?_) | (refine AL.rpy rfl rfl rfl (rp_add rfl rfl rfl (by first | omega | (dsimp only; omega))) ?_))
      (first | (refine AL.noV rfl rfl rfl rfl ?_) | (refine AL.noU rfl ⟨_, rfl, rfl⟩ rfl ?_) | (refine AL.rpy rfl rfl rfl (rp_move rfl rfl) ?_))
      (first | (refine AL.noV rfl rfl rfl rfl ?_) | (refine AL.noU rfl ⟨_, rfl, rfl⟩ rfl ?_) | (refine AL.rpy rfl rfl rfl (rp_lssT rfl rfl rfl (by first | assumption | omega | (dsimp only; omega))) ?_) | (refine AL.rpy rfl rfl rfl (rp_lssF rfl rfl rfl (by first | assumption | omega | (dsimp only; omega))) ?_) | (refine AL.rpy rfl rfl rfl (rp_lss rfl rfl rfl) ?_))
      refine AL.rp rfl rfl (rp_pick rfl rfl rfl) ?_
      refine AL.nil ?_
      try simp only [thenS, S.put]
      refine AW.condF rfl ?_
      refine AW.skip ?_
      try simp only [thenS]
      refine AW.region ?_
      refine AL.rp rfl rfl (rp_move rfl rfl) ?_
      refine AL.rp rfl rfl (rp_add rfl rfl rfl (by first | omega | (dsimp only; omega))) ?_
      refine AL.rp rfl rfl (rp_assign rfl rfl) ?_
      refine AL.nil ?_
      try simp only [thenS, S.put]
      refine ⟨_, ?_, ⟨q + 1, b, by omega, hB2, rfl⟩, ?_⟩
      ·exact (Less.of rfl (by repeat (first | exact trivial | refine ⟨⟨_, rfl, Wk.refl _⟩, ?_⟩ | refine ⟨⟨_, rfl, Wk.nil _ _⟩, ?_⟩ | refine ⟨⟨_, rfl, Wk.junk _⟩, ?_⟩)) (by repeat (first | exact trivial | refine ⟨rfl, ?_⟩)) rfl)
      ·simp [S.nat, fnd]; omega
  ·obtain rfl : q = n := by omega
   obtain rfl : b = B := hBd b (by rw [hn]; exact hBs)
   refine AW.seq ?_
   refine AW.seq ?_
   refine AW.region ?_
   refine AL.rp rfl rfl (rp_move rfl rfl) ?_
   refine AL.rp rfl rfl (rp_move rfl rfl) ?_
   (first | (refine AL.rp rfl rfl (rp_lssT rfl rfl rfl (by first | assumption | omega | (dsimp only; omega))) ?_) | (refine AL.rp rfl rfl (rp_lssF rfl rfl rfl (by first | assumption | omega | (dsimp only; omega))) ?_) | (refine AL.rp rfl rfl (rp_lss rfl rfl rfl) ?_))
   refine AL.nil ?_
   try simp only [thenS, S.put]
   refine AW.condF rfl ?_
   refine AW.exit ?_
   try simp only [thenS, inBlockS, ↓reduceIte, Nat.reduceEqDiff]
   refine AW.seq ?_
   refine AW.region ?_
   refine AL.rp rfl rfl (rp_move rfl rfl) ?_
   refine AL.rp rfl rfl (rp_assign rfl rfl) ?_
   refine AL.nil ?_
   try simp only [thenS, S.put]
   refine AW.ret ?_
   exact ⟨[_], ⟨rfl, trivial⟩, rfl, by simp [tupOf, V.pure, V.has]⟩
end Go.Proofs.Ytnpbdcjfealoeaa
