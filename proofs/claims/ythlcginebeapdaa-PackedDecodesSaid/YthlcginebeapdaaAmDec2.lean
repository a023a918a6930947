-- %hmode
-- %dsl
/- packed.Decode. -/
import Derived.Test.YthlcginebeapdaaAmUnp
namespace Go.Proofs.Ythlcginebeapdaa
open Go.RowKit
set_option linter.unusedSimpArgs false
set_option linter.unusedVariables false
set_option maxRecDepth 100000

set_option maxHeartbeats 8000000 in
theorem am_Decode0 (l : List Nat) (hb : ∀ c ∈ l, c < 256) : Fn Try.prog 24 [.d (bytesD l)] (fun v => resP (dcR l).2 (dcR l).1 v) := by
 refine Fn.sl 0 rfl fun hbd => ?_
 rw [List.length_map] at hbd
 obtain ⟨N, hN⟩ : ∃ N, l.length = N := ⟨_, rfl⟩
 rw [hN] at hbd
 obtain ⟨Z, hZ⟩ : ∃ Z, dcR l = Z := ⟨_, rfl⟩
 rw [hZ]
 have hlm : (l.map encB).length = N := by rw [List.length_map, hN]
 refine Fn.intro (n := 60) ⟨Try.func24, rfl, rfl, rfl, rfl⟩ (by simp [V.pure, V.has, V.hasL]) (by simp) fun w0 out => ?_
 by_cases h8 : 8000 < N
 ·have hr := dcR_long (by rw [hN]; exact h8)
  rw [hZ] at hr
  refine AW.seq ?_
  refine AW.region ?_
  refine AL.sm rfl (sm_alloc (l := [.d (.p (.int .i64 0)), .d (.p (.slice none 0 0))]) 22 inf24 rfl (by first | rfl | simp [S.clean, S.put, S.newObj, S.forget, V.has, V.hasL, junkIf, setL, V.cs, hasL_i, hasL_d, hasL_b, hasL_s, hasL_n, hasL_rep, hasL_flat, hasL_append, -List.map_set]) rfl rfl) ?_
  refine AL.rp rfl rfl (rp_assign rfl rfl) ?_
  refine AL.nil ?_
  try simp only [thenS, S.put, S.newObj, setL, V.cs, List.length_cons, List.length_nil, List.take_succ_cons, List.take_zero, List.drop_succ_cons, List.drop_zero, List.drop_nil, List.nil_append, List.cons_append, List.append_nil, Nat.zero_add, Nat.reduceAdd, List.map_cons, List.map_nil, List.set_cons_zero, List.set_cons_succ, enum]
  refine AW.seq ?_
  refine AW.seq ?_
  refine AW.region ?_
  refine AL.rp rfl rfl (rp_move rfl rfl) ?_
  (first | (refine AL.rp rfl rfl (rp_len_map Try.underlying43 rfl rfl (by assumption)) ?_) | (refine AL.rp rfl rfl (rp_len_own Try.underlying43 rfl rfl) ?_) | (refine AL.rp rfl rfl (rp_len_sl Try.underlying43 rfl rfl) ?_) | (refine AL.rp rfl rfl (rp_len_nil Try.underlying43 rfl rfl) ?_) | (refine AL.rp rfl rfl (rp_len_str Try.underlying43 rfl rfl) ?_))
  (first | (refine AL.rp rfl rfl (rp_gtrT rfl rfl rfl (by first | assumption | omega | (dsimp only; omega))) ?_) | (refine AL.rp rfl rfl (rp_gtrF rfl rfl rfl (by first | assumption | omega | (dsimp only; omega))) ?_) | (refine AL.rp rfl rfl (rp_gtr rfl rfl rfl) ?_))
  refine AL.nil ?_
  try simp only [thenS, S.put]
  refine AW.condT rfl ?_
  refine AW.seq ?_
  refine AW.region ?_
  refine AL.rp rfl rfl (rp_build (vs := []) (zs := [.d (.p (.int .i64 0)), .d (.p (.slice none 0 0))]) pl24 inf24 rfl rfl rfl rfl) ?_
  refine AL.st rfl (st_store_any inf24 rfl rfl rfl rfl rfl rfl rfl rfl (by first | decide | (simp; done) | (simp; omega)) rfl) ?_
  refine AL.rp rfl rfl (rp_assign rfl rfl) ?_
  refine AL.nil ?_
  try simp only [thenS, S.put, S.newObj, setL, V.cs, List.length_cons, List.length_nil, List.take_succ_cons, List.take_zero, List.drop_succ_cons, List.drop_zero, List.drop_nil, List.nil_append, List.cons_append, List.append_nil, Nat.zero_add, Nat.reduceAdd, List.map_cons, List.map_nil, List.set_cons_zero, List.set_cons_succ]
  refine AW.ret ?_
  exact ⟨[_, _], ⟨⟨22, 0, _, _, rfl, rfl, rfl, Try.underlying24, .inr ⟨rfl, _, _, _, _, inf24, rfl, rfl, rfl⟩⟩, rfl, trivial⟩, .inl ⟨by rw [hr]; decide, by rw [hr]; rfl⟩, by simp [tupOf, V.pure, V.has, V.hasL]⟩
 by_cases h5 : N < 5
 ·have hr := dcR_short (by rw [hN]; exact h5)
  rw [hZ] at hr
  refine AW.seq ?_
  refine AW.region ?_
  refine AL.sm rfl (sm_alloc (l := [.d (.p (.int .i64 0)), .d (.p (.slice none 0 0))]) 22 inf24 rfl (by first | rfl | simp [S.clean, S.put, S.newObj, S.forget, V.has, V.hasL, junkIf, setL, V.cs, hasL_i, hasL_d, hasL_b, hasL_s, hasL_n, hasL_rep, hasL_flat, hasL_append, -List.map_set]) rfl rfl) ?_
  refine AL.rp rfl rfl (rp_assign rfl rfl) ?_
  refine AL.nil ?_
  try simp only [thenS, S.put, S.newObj, setL, V.cs, List.length_cons, List.length_nil, List.take_succ_cons, List.take_zero, List.drop_succ_cons, List.drop_zero, List.drop_nil, List.nil_append, List.cons_append, List.append_nil, Nat.zero_add, Nat.reduceAdd, List.map_cons, List.map_nil, List.set_cons_zero, List.set_cons_succ, enum]
  refine AW.seq ?_
  refine AW.seq ?_
  refine AW.region ?_
  refine AL.rp rfl rfl (rp_move rfl rfl) ?_
  (first | (refine AL.rp rfl rfl (rp_len_map Try.underlying43 rfl rfl (by assumption)) ?_) | (refine AL.rp rfl rfl (rp_len_own Try.underlying43 rfl rfl) ?_) | (refine AL.rp rfl rfl (rp_len_sl Try.underlying43 rfl rfl) ?_) | (refine AL.rp rfl rfl (rp_len_nil Try.underlying43 rfl rfl) ?_) | (refine AL.rp rfl rfl (rp_len_str Try.underlying43 rfl rfl) ?_))
  (first | (refine AL.rp rfl rfl (rp_gtrT rfl rfl rfl (by first | assumption | omega | (dsimp only; omega))) ?_) | (refine AL.rp rfl rfl (rp_gtrF rfl rfl rfl (by first | assumption | omega | (dsimp only; omega))) ?_) | (refine AL.rp rfl rfl (rp_gtr rfl rfl rfl) ?_))
  refine AL.nil ?_
  try simp only [thenS, S.put]
  refine AW.condF rfl ?_
  refine AW.skip ?_
  try simp only [thenS]
  refine AW.seq ?_
  refine AW.seq ?_
  refine AW.region ?_
  refine AL.rp rfl rfl (rp_move rfl rfl) ?_
  (first | (refine AL.rp rfl rfl (rp_len_map Try.underlying43 rfl rfl (by assumption)) ?_) | (refine AL.rp rfl rfl (rp_len_own Try.underlying43 rfl rfl) ?_) | (refine AL.rp rfl rfl (rp_len_sl Try.underlying43 rfl rfl) ?_) | (refine AL.rp rfl rfl (rp_len_nil Try.underlying43 rfl rfl) ?_) | (refine AL.rp rfl rfl (rp_len_str Try.underlying43 rfl rfl) ?_))
  (first | (refine AL.rp rfl rfl (rp_lssT rfl rfl rfl (by first | assumption | omega | (dsimp only; omega))) ?_) | (refine AL.rp rfl rfl (rp_lssF rfl rfl rfl (by first | assumption | omega | (dsimp only; omega))) ?_) | (refine AL.rp rfl rfl (rp_lss rfl rfl rfl) ?_))
  refine AL.nil ?_
  try simp only [thenS, S.put]
  refine AW.condT rfl ?_
  refine AW.seq ?_
  refine AW.region ?_
  refine AL.rp rfl rfl (rp_build (vs := []) (zs := [.d (.p (.int .i64 0)), .d (.p (.slice none 0 0))]) pl24 inf24 rfl rfl rfl rfl) ?_
  refine AL.st rfl (st_store_any inf24 rfl rfl rfl rfl rfl rfl rfl rfl (by first | decide | (simp; done) | (simp; omega)) rfl) ?_
  refine AL.rp rfl rfl (rp_assign rfl rfl) ?_
  refine AL.nil ?_
  try simp only [thenS, S.put, S.newObj, setL, V.cs, List.length_cons, List.length_nil, List.take_succ_cons, List.take_zero, List.drop_succ_cons, List.drop_zero, List.drop_nil, List.nil_append, List.cons_append, List.append_nil, Nat.zero_add, Nat.reduceAdd, List.map_cons, List.map_nil, List.set_cons_zero, List.set_cons_succ]
  refine AW.ret ?_
  exact ⟨[_, _], ⟨⟨22, 0, _, _, rfl, rfl, rfl, Try.underlying24, .inr ⟨rfl, _, _, _, _, inf24, rfl, rfl, rfl⟩⟩, rfl, trivial⟩, .inl ⟨by rw [hr]; decide, by rw [hr]; rfl⟩, by simp [tupOf, V.pure, V.has, V.hasL]⟩
 obtain ⟨E, hE⟩ : ∃ E, N - 2 = E := ⟨_, rfl⟩
 have hsum := dcR_sum (by rw [hN]; exact h8) (by rw [hN]; exact h5)
 have hnone := fun n hc hn hs => dcR_none (n := n) (by rw [hN]; exact h8) (by rw [hN]; exact h5) hc hn hs
 have hsome := fun b0 n b2 L r hc h0 hn h2 hs => dcR_some (n := n) (b0 := b0) (b2 := b2) (L := L) (r := r) (by rw [hN]; exact h8) (by rw [hN]; exact h5) hc h0 hn h2 hs
 rw [hZ] at hsum
 simp only [hZ, hN, hE] at hsum hnone hsome
 have hEl : E ≤ (l.map encB).length := by omega
 obtain ⟨T, hT⟩ : ∃ T, l.take E = T := ⟨_, rfl⟩
 obtain ⟨U, hU⟩ : ∃ U, l.drop E = U := ⟨_, rfl⟩
 have hTl : T.length = E := by rw [← hT, List.length_take]; omega
 have hUl : U.length = 2 := by rw [← hU, List.length_drop]; omega
 have hTb : ∀ c ∈ T, c < 256 := fun c hc => hb c (List.mem_of_mem_take (hT ▸ hc))
 have hUb : ∀ c ∈ U, c < 256 := fun c hc => hb c (List.mem_of_mem_drop (hU ▸ hc))
 have hTm : (l.map encB).take E = T.map encB := by rw [← List.map_take, hT]
 have hUm : (l.map encB).drop E = U.map encB := by rw [← List.map_drop, hU]
 rw [hU] at hsum hnone hsome
 obtain ⟨J, hJ⟩ : ∃ J, numB U = J := ⟨_, rfl⟩
 have hJ2 : numB (U.take 2) = J := by rw [← hJ, List.take_of_length_le (by omega)]
 obtain ⟨C, hC⟩ : ∃ C, crc T = C := ⟨_, rfl⟩
 have hcl : C < 65536 := by
  rw [← hC]
  have := (crc_take hTb T.length (Nat.le_refl _)).2
  rw [List.take_length] at this
  exact this
 have hcs := Fn.eqv (am_sum T hTb) (y := .k .u16 (C : Int)) (by rw [hC])
 rw [hT, hC, hJ] at hsum hnone hsome
 by_cases hc : C = J
 ·have hcJ : (J : Int) = (C : Int) := by omega
  have h3 : ∃ b0 n b2 R0, T = b0 :: n :: b2 :: R0 := by
   match T, hTl with
   | [], h => simp at h; omega
   | [_], h => simp at h; omega
   | [_, _], h => simp at h; omega
   | b0 :: n :: b2 :: R0, _ => exact ⟨b0, n, b2, R0, rfl⟩
  obtain ⟨b0, n, b2, R0, hT3⟩ := h3
  have hD3 : T.drop 3 = R0 := by rw [hT3]; rfl
  have hlk : ∀ j, j < E → l[j]? = T[j]? := fun j hj => by rw [← hT, List.getElem?_take, if_pos hj]
  have hl0 : l[0]? = some b0 := by rw [hlk 0 (by omega), hT3]; rfl
  have hl1 : l[1]? = some n := by rw [hlk 1 (by omega), hT3]; rfl
  have hl2 : l[2]? = some b2 := by rw [hlk 2 (by omega), hT3]; rfl
  have hT0 : T[0]? = some b0 := by rw [hT3]; rfl
  have hV : (T.map encB).drop 1 = (n :: b2 :: R0).map encB := by rw [hT3]; rfl
  have h1le : 1 ≤ (T.map encB).length := by rw [List.length_map]; omega
  have hb0 := hb b0 (List.mem_of_getElem? hl0)
  have hbn : ∀ c ∈ n :: b2 :: R0, c < 256 := fun c hc => hTb c (by rw [hT3]; exact List.mem_cons_of_mem _ hc)
  have hR0l : R0.length ≤ 8000 := by
   have := congrArg List.length hD3
   rw [List.length_drop] at this
   omega
  have hnone := hnone n hc hl1
  have hsome := fun L r => hsome b0 n b2 L r hc hl0 hl1 hl2
  rw [hD3] at hnone hsome
  have hmc := pc_machine n b2 R0 T hbn hR0l
  refine AW.seq ?_
  refine AW.region ?_
  refine AL.sm rfl (sm_alloc (l := [.d (.p (.int .i64 0)), .d (.p (.slice none 0 0))]) 22 inf24 rfl (by first | rfl | simp [S.clean, S.put, S.newObj, S.forget, V.has, V.hasL, junkIf, setL, V.cs, hasL_i, hasL_d, hasL_b, hasL_s, hasL_n, hasL_rep, hasL_flat, hasL_append, -List.map_set]) rfl rfl) ?_
  refine AL.rp rfl rfl (rp_assign rfl rfl) ?_
  refine AL.nil ?_
  try simp only [thenS, S.put, S.newObj, setL, V.cs, List.length_cons, List.length_nil, List.take_succ_cons, List.take_zero, List.drop_succ_cons, List.drop_zero, List.drop_nil, List.nil_append, List.cons_append, List.append_nil, Nat.zero_add, Nat.reduceAdd, List.map_cons, List.map_nil, List.set_cons_zero, List.set_cons_succ, enum]
  refine AW.seq ?_
  refine AW.seq ?_
  refine AW.region ?_
  refine AL.rp rfl rfl (rp_move rfl rfl) ?_
  (first | (refine AL.rp rfl rfl (rp_len_map Try.underlying43 rfl rfl (by assumption)) ?_) | (refine AL.rp rfl rfl (rp_len_own Try.underlying43 rfl rfl) ?_) | (refine AL.rp rfl rfl (rp_len_sl Try.underlying43 rfl rfl) ?_) | (refine AL.rp rfl rfl (rp_len_nil Try.underlying43 rfl rfl) ?_) | (refine AL.rp rfl rfl (rp_len_str Try.underlying43 rfl rfl) ?_))
  (first | (refine AL.rp rfl rfl (rp_gtrT rfl rfl rfl (by first | assumption | omega | (dsimp only; omega))) ?_) | (refine AL.rp rfl rfl (rp_gtrF rfl rfl rfl (by first | assumption | omega | (dsimp only; omega))) ?_) | (refine AL.rp rfl rfl (rp_gtr rfl rfl rfl) ?_))
  refine AL.nil ?_
  try simp only [thenS, S.put]
  refine AW.condF rfl ?_
  refine AW.skip ?_
  try simp only [thenS]
  refine AW.seq ?_
  refine AW.seq ?_
  refine AW.region ?_
  refine AL.rp rfl rfl (rp_move rfl rfl) ?_
  (first | (refine AL.rp rfl rfl (rp_len_map Try.underlying43 rfl rfl (by assumption)) ?_) | (refine AL.rp rfl rfl (rp_len_own Try.underlying43 rfl rfl) ?_) | (refine AL.rp rfl rfl (rp_len_sl Try.underlying43 rfl rfl) ?_) | (refine AL.rp rfl rfl (rp_len_nil Try.underlying43 rfl rfl) ?_) | (refine AL.rp rfl rfl (rp_len_str Try.underlying43 rfl rfl) ?_))
  (first | (refine AL.rp rfl rfl (rp_lssT rfl rfl rfl (by first | assumption | omega | (dsimp only; omega))) ?_) | (refine AL.rp rfl rfl (rp_lssF rfl rfl rfl (by first | assumption | omega | (dsimp only; omega))) ?_) | (refine AL.rp rfl rfl (rp_lss rfl rfl rfl) ?_))
  refine AL.nil ?_
  try simp only [thenS, S.put]
  refine AW.condF rfl ?_
  refine AW.skip ?_
  try simp only [thenS]
  refine AW.seq ?_
  refine AW.drawT (N := ?N28) (l := #[false, false, false, false, false, false, false, false, false, false, false, false, false, false]) 14 (by kernel_rfl) rfl rfl ?_ ?_
  rotate_left
  refine AN.rp (i := 0) (l' := #[true, false, false, false, false, false, false, false, false, false, false, false, false, false]) rfl rfl rfl (fun _ _ h => h) (by kernel_rfl) rfl (rp_move rfl rfl) ?_
  refine AN.rp (i := 1) (l' := #[true, true, false, false, false, false, false, false, false, false, false, false, false, false]) rfl rfl rfl (fun _ _ h => h) (by kernel_rfl) rfl (rp_move rfl rfl) ?_
  (first | (refine AN.rp (i := 2) (l' := #[true, true, true, false, false, false, false, false, false, false, false, false, false, false]) rfl rfl rfl (fun _ _ h => h) (by kernel_rfl) rfl (rp_len_map Try.underlying43 rfl rfl (by assumption)) ?_) | (refine AN.rp (i := 2) (l' := #[true, true, true, false, false, false, false, false, false, false, false, false, false, false]) rfl rfl rfl (fun _ _ h => h) (by kernel_rfl) rfl (rp_len_own Try.underlying43 rfl rfl) ?_) | (refine AN.rp (i := 2) (l' := #[true, true, true, false, false, false, false, false, false, false, false, false, false, false]) rfl rfl rfl (fun _ _ h => h) (by kernel_rfl) rfl (rp_len_sl Try.underlying43 rfl rfl) ?_) | (refine AN.rp (i := 2) (l' := #[true, true, true, false, false, false, false, false, false, false, false, false, false, false]) rfl rfl rfl (fun _ _ h => h) (by kernel_rfl) rfl (rp_len_nil Try.underlying43 rfl rfl) ?_) | (refine AN.rp (i := 2) (l' := #[true, true, true, false, false, false, false, false, false, false, false, false, false, false]) rfl rfl rfl (fun _ _ h => h) (by kernel_rfl) rfl (rp_len_str Try.underlying43 rfl rfl) ?_))
  refine AN.rp (i := 3) (l' := #[true, true, true, true, false, false, false, false, false, false, false, false, false, false]) rfl rfl rfl (fun _ _ h => h) (by kernel_rfl) rfl (rp_subZ ((E : Int)) rfl rfl rfl (by omega) (by omega)) ?_
  refine AN.rp (i := 5) (l' := #[true, true, true, true, false, true, false, false, false, false, false, false, false, false]) rfl rfl rfl (fun _ _ h => h) (by kernel_rfl) rfl (rp_move rfl rfl) ?_
  refine AN.rp (i := 6) (l' := #[true, true, true, true, false, true, true, false, false, false, false, false, false, false]) rfl rfl rfl (fun _ _ h => h) (by kernel_rfl) rfl (rp_move rfl rfl) ?_
  (first | (refine AN.rp (i := 7) (l' := #[true, true, true, true, false, true, true, true, false, false, false, false, false, false]) rfl rfl rfl (fun _ _ h => h) (by kernel_rfl) rfl (rp_len_map Try.underlying43 rfl rfl (by assumption)) ?_) | (refine AN.rp (i := 7) (l' := #[true, true, true, true, false, true, true, true, false, false, false, false, false, false]) rfl rfl rfl (fun _ _ h => h) (by kernel_rfl) rfl (rp_len_own Try.underlying43 rfl rfl) ?_) | (refine AN.rp (i := 7) (l' := #[true, true, true, true, false, true, true, true, false, false, false, false, false, false]) rfl rfl rfl (fun _ _ h => h) (by kernel_rfl) rfl (rp_len_sl Try.underlying43 rfl rfl) ?_) | (refine AN.rp (i := 7) (l' := #[true, true, true, true, false, true, true, true, false, false, false, false, false, false]) rfl rfl rfl (fun _ _ h => h) (by kernel_rfl) rfl (rp_len_nil Try.underlying43 rfl rfl) ?_) | (refine AN.rp (i := 7) (l' := #[true, true, true, true, false, true, true, true, false, false, false, false, false, false]) rfl rfl rfl (fun _ _ h => h) (by kernel_rfl) rfl (rp_len_str Try.underlying43 rfl rfl) ?_))
  refine AN.rp (i := 8) (l' := #[true, true, true, true, false, true, true, true, true, false, false, false, false, false]) rfl rfl rfl (fun _ _ h => h) (by kernel_rfl) rfl (rp_subZ ((E : Int)) rfl rfl rfl (by omega) (by omega)) ?_
  refine AN.br2 (i := 4) (j := 9) (by kernel_rfl) ?_ ?_
  ·refine BR.mk (l' := #[true, true, true, true, true, true, true, true, true, false, false, false, false, false]) rfl rfl rfl ?_
   (first | (refine ST.rd rfl (rp_slice_own (k := E) Try.underlying43 inf5 rfl rfl rfl (by first | rfl | omega) (by omega)) ?_) | (refine ST.rd rfl (rd_slice_to (k := E) Try.underlying43 inf5 rfl rfl rfl (by first | rfl | omega) (by first | assumption | omega) (by assumption)) ?_))
   refine AN.rp (i := 12) (l' := #[true, true, true, true, true, true, true, true, true, false, false, false, true, false]) rfl rfl rfl (fun _ _ h => h) (by kernel_rfl) rfl (rp_assign rfl rfl) ?_
   refine AN.br1 (i := 9) (by kernel_rfl) ?_
   refine BR.mk (l' := #[true, true, true, true, true, true, true, true, true, true, false, false, true, false]) rfl rfl rfl ?_
   (first | (refine ST.rd rfl (rd_slice_que (j := E) Try.underlying43 inf5 rfl rfl rfl (by omega) (by omega)) ?_) | (refine ST.rd rfl (rd_slice_fromD (j := E) Try.underlying43 inf5 rfl rfl rfl (by first | rfl | omega) (by first | assumption | omega) (by assumption)) ?_))
   refine AN.rp (i := 10) (l' := #[true, true, true, true, true, true, true, true, true, true, true, false, true, false]) rfl rfl rfl (fun _ _ h => h) (by kernel_rfl) rfl (rp_build (vs := [(0, _)]) (zs := [.d (.p (.slice none 0 0))]) pl91 inf91 rfl rfl rfl rfl) ?_
   refine AN.br1 (i := 11) (by kernel_rfl) ?_
   refine BR.mk (l' := #[true, true, true, true, true, true, true, true, true, true, true, true, true, false]) rfl rfl rfl ?_
   refine ST.sm (sm_box 900 rfl rfl rfl (by first | rfl | simp [S.clean, S.put, S.newObj, S.forget, V.has, V.hasL, junkIf, setL, V.cs, hasL_i, hasL_d, hasL_b, hasL_s, hasL_n, hasL_rep, hasL_flat, hasL_append, -List.map_set]) rfl) ?_
   refine AN.rp (i := 13) (l' := #[true, true, true, true, true, true, true, true, true, true, true, true, true, true]) rfl rfl rfl (fun _ _ h => h) (by kernel_rfl) rfl (rp_assign rfl rfl) ?_
   refine AN.nil (by kernel_rfl) ?_
   show Less _ _
   exact Less.dd _
  ·refine BR.mk (l' := #[true, true, true, true, false, true, true, true, true, true, false, false, false, false]) rfl rfl rfl ?_
   (first | (refine ST.rd rfl (rd_slice_que (j := E) Try.underlying43 inf5 rfl rfl rfl (by omega) (by omega)) ?_) | (refine ST.rd rfl (rd_slice_fromD (j := E) Try.underlying43 inf5 rfl rfl rfl (by first | rfl | omega) (by first | assumption | omega) (by assumption)) ?_))
   refine AN.rp (i := 10) (l' := #[true, true, true, true, false, true, true, true, true, true, true, false, false, false]) rfl rfl rfl (fun _ _ h => h) (by kernel_rfl) rfl (rp_build (vs := [(0, _)]) (zs := [.d (.p (.slice none 0 0))]) pl91 inf91 rfl rfl rfl rfl) ?_
   refine AN.br2 (i := 4) (j := 11) (by kernel_rfl) ?_ ?_
   ·refine BR.mk (l' := #[true, true, true, true, true, true, true, true, true, true, true, false, false, false]) rfl rfl rfl ?_
    (first | (refine ST.rd rfl (rp_slice_own (k := E) Try.underlying43 inf5 rfl rfl rfl (by first | rfl | omega) (by omega)) ?_) | (refine ST.rd rfl (rd_slice_to (k := E) Try.underlying43 inf5 rfl rfl rfl (by first | rfl | omega) (by first | assumption | omega) (by assumption)) ?_))
    refine AN.rp (i := 12) (l' := #[true, true, true, true, true, true, true, true, true, true, true, false, true, false]) rfl rfl rfl (fun _ _ h => h) (by kernel_rfl) rfl (rp_assign rfl rfl) ?_
    refine AN.br1 (i := 11) (by kernel_rfl) ?_
    refine BR.mk (l' := #[true, true, true, true, true, true, true, true, true, true, true, true, true, false]) rfl rfl rfl ?_
    refine ST.sm (sm_box 900 rfl rfl rfl (by first | rfl | simp [S.clean, S.put, S.newObj, S.forget, V.has, V.hasL, junkIf, setL, V.cs, hasL_i, hasL_d, hasL_b, hasL_s, hasL_n, hasL_rep, hasL_flat, hasL_append, -List.map_set]) rfl) ?_
    refine AN.rp (i := 13) (l' := #[true, true, true, true, true, true, true, true, true, true, true, true, true, true]) rfl rfl rfl (fun _ _ h => h) (by kernel_rfl) rfl (rp_assign rfl rfl) ?_
    refine AN.nil (by kernel_rfl) ?_
    show Less _ _
    (try simp only [S.put, S.newObj, setL, V.cs, List.length_cons, List.length_nil, List.take_succ_cons, List.take_zero, List.drop_succ_cons, List.drop_zero, List.drop_nil, List.nil_append, List.cons_append, List.append_nil, Nat.zero_add, Nat.reduceAdd, List.map_cons, List.map_nil, List.set_cons_zero, List.set_cons_succ])
    try simp only [S.dd, ddL, List.contains_cons, List.contains_nil, Nat.reduceBEq, beq_self_eq_true, Bool.or_false, Bool.or_true, Bool.false_or, Bool.true_or, Bool.or_self, if_true, if_false, Bool.false_eq_true, ↓reduceIte]
    exact (Less.of rfl (by repeat (first | exact trivial | refine ⟨⟨_, rfl, Wk.refl _⟩, ?_⟩)) (by repeat (first | exact trivial | refine ⟨rfl, ?_⟩)) rfl)
   ·refine BR.mk (l' := #[true, true, true, true, false, true, true, true, true, true, true, true, false, false]) rfl rfl rfl ?_
    refine ST.sm (sm_box 900 rfl rfl rfl (by first | rfl | simp [S.clean, S.put, S.newObj, S.forget, V.has, V.hasL, junkIf, setL, V.cs, hasL_i, hasL_d, hasL_b, hasL_s, hasL_n, hasL_rep, hasL_flat, hasL_append, -List.map_set]) rfl) ?_
    refine AN.br1 (i := 4) (by kernel_rfl) ?_
    refine BR.mk (l' := #[true, true, true, true, true, true, true, true, true, true, true, true, false, false]) rfl rfl rfl ?_
    (first | (refine ST.rd rfl (rp_slice_own (k := E) Try.underlying43 inf5 rfl rfl rfl (by first | rfl | omega) (by omega)) ?_) | (refine ST.rd rfl (rd_slice_to (k := E) Try.underlying43 inf5 rfl rfl rfl (by first | rfl | omega) (by first | assumption | omega) (by assumption)) ?_))
    refine AN.rp (i := 12) (l' := #[true, true, true, true, true, true, true, true, true, true, true, true, true, false]) rfl rfl rfl (fun _ _ h => h) (by kernel_rfl) rfl (rp_assign rfl rfl) ?_
    refine AN.rp (i := 13) (l' := #[true, true, true, true, true, true, true, true, true, true, true, true, true, true]) rfl rfl rfl (fun _ _ h => h) (by kernel_rfl) rfl (rp_assign rfl rfl) ?_
    refine AN.nil (by kernel_rfl) ?_
    show Less _ _
    (try simp only [S.put, S.newObj, setL, V.cs, List.length_cons, List.length_nil, List.take_succ_cons, List.take_zero, List.drop_succ_cons, List.drop_zero, List.drop_nil, List.nil_append, List.cons_append, List.append_nil, Nat.zero_add, Nat.reduceAdd, List.map_cons, List.map_nil, List.set_cons_zero, List.set_cons_succ])
    try simp only [S.dd, ddL, List.contains_cons, List.contains_nil, Nat.reduceBEq, beq_self_eq_true, Bool.or_false, Bool.or_true, Bool.false_or, Bool.true_or, Bool.or_self, if_true, if_false, Bool.false_eq_true, ↓reduceIte]
    exact (Less.of rfl (by repeat (first | exact trivial | refine ⟨⟨_, rfl, Wk.refl _⟩, ?_⟩)) (by repeat (first | exact trivial | refine ⟨rfl, ?_⟩)) rfl)
  (try simp only [S.put, S.newObj, setL, V.cs, List.length_cons, List.length_nil, List.take_succ_cons, List.take_zero, List.drop_succ_cons, List.drop_zero, List.drop_nil, List.nil_append, List.cons_append, List.append_nil, Nat.zero_add, Nat.reduceAdd, List.map_cons, List.map_nil, List.set_cons_zero, List.set_cons_succ])
  try simp only [S.dd, ddL, List.contains_cons, List.contains_nil, Nat.reduceBEq, beq_self_eq_true, Bool.or_false, Bool.or_true, Bool.false_or, Bool.true_or, Bool.or_self, if_true, if_false, Bool.false_eq_true, ↓reduceIte]
  try simp only [thenS, S.put, S.newObj, setL, V.cs, List.length_cons, List.length_nil, List.take_succ_cons, List.take_zero, List.drop_succ_cons, List.drop_zero, List.drop_nil, List.nil_append, List.cons_append, List.append_nil, Nat.zero_add, Nat.reduceAdd, List.map_cons, List.map_nil, List.set_cons_zero, List.set_cons_succ]
  refine AW.seq ?_
  refine AW.seq ?_
  refine AW.region ?_
  refine AL.rp rfl rfl (rp_move rfl rfl) ?_
  try simp only [S.put, S.newObj, setL, V.cs, List.length_cons, List.length_nil, List.take_succ_cons, List.take_zero, List.drop_succ_cons, List.drop_zero, List.drop_nil, List.nil_append, List.cons_append, List.append_nil, Nat.zero_add, Nat.reduceAdd]
  refine AL.pc [0, 2, 4, 5, 29] (ts := [_, _, _, _, _]) (args := [_, _]) (post := ?pc28) ?hc28 rfl rfl rfl rfl rfl rfl rfl rfl rfl ?_
  case hc28 => (refine pc_take U [] 2 J hUb (by omega) (by decide) hJ2 (List.drop_eq_nil_of_le (by omega)) [(22, bxM (.i 0) .nil)] ?_ <;> first | rfl | exact ⟨rfl, rfl, trivial⟩ | exact ⟨rfl, rfl, rfl, rfl, trivial⟩ | exact ⟨rfl, rfl, rfl, rfl, rfl, trivial⟩ | exact ⟨rfl, rfl, rfl, rfl, rfl, rfl, trivial⟩ | exact ⟨rfl, rfl, rfl, rfl, rfl, rfl, rfl, trivial⟩ | (simp [V.lowL, V.low]; done))
  rintro _ _ _ ⟨rfl, rfl, rfl⟩
  simp only [back, S.put, List.cons_append, List.nil_append, List.zip_cons_cons, List.zip_nil_left, List.drop_succ_cons, List.drop_zero, List.length_cons, List.length_nil, Nat.zero_add, Nat.reduceAdd]
  refine AL.rp rfl rfl (rp_move rfl rfl) ?_
  refine AL.call (post := ?pc29) rfl (sm_call (args := [_]) ?hc29 ⟨Try.func48, rfl, rfl, rfl, rfl⟩ rfl rfl rfl rfl) ?_
  case hc29 => exact hcs
  rintro _ rfl -
  try dsimp only
  refine AL.rp rfl rfl (rp_conv Try.underlying93 (by intro e h; cases h) (by intro h; cases h) Try.underlying3 rfl rfl (r := (C : Int)) (by first | (rw [wrap8]; omega) | (rw [wrap8]; dsimp only; omega) | (rw [wrap16]; omega) | (rw [wrap64 (by omega)] <;> omega) | (rw [wrapU64 (by omega)] <;> omega))) ?_
  (first | (refine AL.rp rfl rfl (rp_neqT rfl rfl rfl (by first | assumption | omega | (dsimp only; omega))) ?_) | (refine AL.rp rfl rfl (rp_neqF rfl rfl rfl (by first | assumption | omega | (dsimp only; omega))) ?_) | (refine AL.rp rfl rfl (rp_neq rfl rfl rfl) ?_))
  refine AL.nil ?_
  try simp only [thenS, S.put, S.newObj, setL, V.cs, List.length_cons, List.length_nil, List.take_succ_cons, List.take_zero, List.drop_succ_cons, List.drop_zero, List.drop_nil, List.nil_append, List.cons_append, List.append_nil, Nat.zero_add, Nat.reduceAdd, List.map_cons, List.map_nil, List.set_cons_zero, List.set_cons_succ]
  refine AW.condF rfl ?_
  refine AW.skip ?_
  try simp only [thenS]
  refine AW.seq ?_
  refine AW.less (s' := ⟨60, [(0, .d (bytesD l)), (2, .ref 22 0), (4, .d (bytesD T))], [(22, bxM (.i 0) .nil)], []⟩) (Less.of rfl (by repeat (first | exact trivial | refine ⟨⟨_, rfl, Wk.refl _⟩, ?_⟩ | refine ⟨⟨_, rfl, Wk.nil _ _⟩, ?_⟩ | refine ⟨⟨_, rfl, Wk.junk _⟩, ?_⟩)) (by repeat (first | exact trivial | refine ⟨rfl, ?_⟩)) rfl) ?_
  cases hs : stsL n R0 with
  | none =>
   have hr := hnone hs
   have hmc2 : PC Try.prog 49 [.ref 900 0] [(900, tkR (n :: b2 :: R0)), (22, bxM (.i 0) .nil)] [.ref 22 0, .d (bytesD T)] (fun v H' K' => (∃ k a m cap, v = .tup [.agg [.i k, .d (.p (.slice a m cap))], .b false]) ∧ v.pure ∧ H' = [(22, bxM (.i 0) .nil)] ∧ K' = [.ref 22 0, .d (bytesD T)]) := by simpa only [mcP, hs] using hmc
   have hck := am_Check ⟨0, []⟩
   refine AW.region ?_
   refine AL.rp rfl rfl (rp_move rfl rfl) ?_
   (first | (refine AL.rd rfl rfl (rd_slice_que (j := 1) Try.underlying43 inf5 rfl rfl rfl (by omega) (by omega)) ?_) | (refine AL.rd rfl rfl (rd_slice_fromD (j := 1) Try.underlying43 inf5 rfl rfl rfl (by first | rfl | omega) (by first | assumption | omega) (by assumption)) ?_))
   refine AL.rp rfl rfl (rp_build (vs := [(0, _)]) (zs := [.d (.p (.slice none 0 0))]) pl91 inf91 rfl rfl rfl rfl) ?_
   refine AL.sm rfl (sm_box 900 rfl rfl rfl (by first | rfl | simp [S.clean, S.put, S.newObj, S.forget, V.has, V.hasL, junkIf, setL, V.cs, hasL_i, hasL_d, hasL_b, hasL_s, hasL_n, hasL_rep, hasL_flat, hasL_append, -List.map_set]) rfl) ?_
   refine AL.rp rfl rfl (rp_assign rfl rfl) ?_
   refine AL.nil ?_
   try simp only [thenS, S.put, S.newObj, setL, V.cs, List.length_cons, List.length_nil, List.take_succ_cons, List.take_zero, List.drop_succ_cons, List.drop_zero, List.drop_nil, List.nil_append, List.cons_append, List.append_nil, Nat.zero_add, Nat.reduceAdd, List.map_cons, List.map_nil, List.set_cons_zero, List.set_cons_succ]
   refine AW.seq ?_
   refine AW.region ?_
   refine AL.rp rfl rfl (rp_move rfl rfl) ?_
   try simp only [S.put, S.newObj, setL, V.cs, List.length_cons, List.length_nil, List.take_succ_cons, List.take_zero, List.drop_succ_cons, List.drop_zero, List.drop_nil, List.nil_append, List.cons_append, List.append_nil, Nat.zero_add, Nat.reduceAdd]
   refine AL.pc [2, 4] (ts := [_, _]) (args := [_]) (post := ?pc30) ?hc30 rfl rfl rfl rfl rfl rfl rfl rfl rfl ?_
   case hc30 => (refine hmc2 <;> first | rfl | exact ⟨rfl, rfl, trivial⟩ | exact ⟨rfl, rfl, rfl, rfl, trivial⟩ | exact ⟨rfl, rfl, rfl, rfl, rfl, trivial⟩ | exact ⟨rfl, rfl, rfl, rfl, rfl, rfl, trivial⟩ | exact ⟨rfl, rfl, rfl, rfl, rfl, rfl, rfl, trivial⟩ | (simp [V.lowL, V.low]; done))
   rintro _ _ _ ⟨⟨k, a, m, cap, rfl⟩, -, rfl, rfl⟩
   simp only [back, S.put, List.cons_append, List.nil_append, List.zip_cons_cons, List.zip_nil_left, List.drop_succ_cons, List.drop_zero, List.length_cons, List.length_nil, Nat.zero_add, Nat.reduceAdd]
   refine AL.rp rfl rfl (rp_move rfl rfl) ?_
   refine AL.rp rfl rfl (rp_extract rfl rfl rfl) ?_
   refine AL.rp rfl rfl (rp_extract rfl rfl rfl) ?_
   refine AL.sm rfl (sm_alloc (l := [.d (.p (.int .i64 0)), .d (.p (.slice none 0 0))]) 7 inf24 rfl (by first | rfl | simp [S.clean, S.put, S.newObj, S.forget, V.has, V.hasL, junkIf, setL, V.cs, hasL_i, hasL_d, hasL_b, hasL_s, hasL_n, hasL_rep, hasL_flat, hasL_append, -List.map_set]) rfl rfl) ?_
   refine AL.st rfl (st_store_any inf24 rfl rfl rfl rfl rfl rfl rfl rfl (by first | decide | (simp; done) | (simp; omega)) rfl) ?_
   refine AL.rp rfl rfl (rp_assign rfl rfl) ?_
   refine AL.nil ?_
   try simp only [thenS, S.put, S.newObj, setL, V.cs, List.length_cons, List.length_nil, List.take_succ_cons, List.take_zero, List.drop_succ_cons, List.drop_zero, List.drop_nil, List.nil_append, List.cons_append, List.append_nil, Nat.zero_add, Nat.reduceAdd, List.map_cons, List.map_nil, List.set_cons_zero, List.set_cons_succ]
   refine AW.seq ?_
   refine AW.seq ?_
   refine AW.region ?_
   refine AL.rp rfl rfl (rp_move rfl rfl) ?_
   refine AL.rp rfl rfl (rp_not rfl rfl) ?_
   refine AL.rp rfl rfl (rp_move rfl rfl) ?_
   (first | (refine AL.noV rfl rfl rfl rfl ?_) | (refine AL.noU rfl ⟨_, rfl, rfl⟩ rfl ?_) | (refine AL.rpy rfl rfl rfl (rp_move rfl rfl) ?_))
   (first | (refine AL.noV rfl rfl rfl rfl ?_) | (refine AL.noU rfl ⟨_, rfl, rfl⟩ rfl ?_) | (refine AL.rpy rfl rfl rfl (rp_index_map Try.underlying43 inf5 rfl rfl rfl rfl (by assumption)) ?_) | (refine AL.rpy rfl rfl rfl (rp_index_own Try.underlying43 inf5 rfl rfl rfl rfl (by first | assumption | omega)) ?_) | (refine AL.rpy rfl rfl rfl (rd_index_sl Try.underlying43 inf5 rfl rfl rfl rfl (by assumption)) ?_) | (refine AL.rpy rfl rfl rfl (rp_index_own Try.underlying43 inf5 rfl rfl rfl (by omega) (by omega)) ?_))
   (first | (refine AL.noV rfl rfl rfl rfl ?_) | (refine AL.noU rfl ⟨_, rfl, rfl⟩ rfl ?_) | (refine AL.rdy rfl rfl rfl (rd_load_ref Try.underlying5 rfl rfl rfl rfl rfl rfl) ?_) | (refine AL.rdy rfl rfl rfl (rd_load_ad Try.underlying5 rfl rfl rfl rfl) ?_) | (refine AL.rdy rfl rfl rfl (rd_load_map Try.underlying5 rfl rfl rfl rfl rfl rfl (by assumption)) ?_) | (refine AL.rdy rfl rfl rfl (rd_load_flat Try.underlying5 rfl rfl rfl rfl rfl rfl (fun _ => rfl) (by assumption) rfl) ?_))
   (first | (refine AL.noV rfl rfl rfl rfl ?_) | (refine AL.noU rfl ⟨_, rfl, rfl⟩ rfl ?_) | (refine AL.rpy rfl rfl rfl (rp_neqT rfl rfl rfl (by first | assumption | omega | (dsimp only; omega))) ?_) | (refine AL.rpy rfl rfl rfl (rp_neqF rfl rfl rfl (by first | assumption | omega | (dsimp only; omega))) ?_) | (refine AL.rpy rfl rfl rfl (rp_neq rfl rfl rfl) ?_))
   refine AL.rp rfl rfl (rp_pick rfl rfl rfl) ?_
   refine AL.rp rfl rfl (rp_move rfl rfl) ?_
   (first | (refine AL.noV rfl rfl rfl rfl ?_) | (refine AL.noU rfl ⟨_, rfl, rfl⟩ rfl ?_) | (refine AL.rdy rfl rfl rfl (rd_loads_ref Try.underlying24 rfl inf24 rfl rfl rfl rfl rfl rfl) ?_) | (refine AL.rdy rfl rfl rfl (rd_loads_ad Try.underlying24 rfl inf24 rfl rfl rfl rfl) ?_))
   (first | (refine AL.no rfl rfl rfl rfl ?_) | (refine AL.noU rfl ⟨_, rfl, rfl⟩ rfl ?_) | (refine AL.cally (post := ?pc31) rfl rfl (sm_call (args := [_]) ?hc31 ⟨Try.func10, rfl, rfl, rfl, rfl⟩ rfl rfl rfl rfl) ?_; (case hc31 => (exact hck)); rintro _ rfl -; try dsimp only))
   (first | (refine AL.noV rfl rfl rfl rfl ?_) | (refine AL.noU rfl ⟨_, rfl, rfl⟩ rfl ?_) | (refine AL.rpy rfl rfl rfl (rp_neqT rfl rfl rfl (by first | assumption | omega | (dsimp only; omega))) ?_) | (refine AL.rpy rfl rfl rfl (rp_neqF rfl rfl rfl (by first | assumption | omega | (dsimp only; omega))) ?_) | (refine AL.rpy rfl rfl rfl (rp_neq rfl rfl rfl) ?_))
   refine AL.rp rfl rfl (rp_pick rfl rfl rfl) ?_
   refine AL.nil ?_
   try simp only [thenS, S.put, S.newObj, setL, V.cs, List.length_cons, List.length_nil, List.take_succ_cons, List.take_zero, List.drop_succ_cons, List.drop_zero, List.drop_nil, List.nil_append, List.cons_append, List.append_nil, Nat.zero_add, Nat.reduceAdd, List.map_cons, List.map_nil, List.set_cons_zero, List.set_cons_succ]
   refine AW.condT rfl ?_
   refine AW.seq ?_
   refine AW.region ?_
   refine AL.rp rfl rfl (rp_build (vs := []) (zs := [.d (.p (.int .i64 0)), .d (.p (.slice none 0 0))]) pl24 inf24 rfl rfl rfl rfl) ?_
   refine AL.st rfl (st_store_any inf24 rfl rfl rfl rfl rfl rfl rfl rfl (by first | decide | (simp; done) | (simp; omega)) rfl) ?_
   refine AL.rp rfl rfl (rp_assign rfl rfl) ?_
   refine AL.nil ?_
   try simp only [thenS, S.put, S.newObj, setL, V.cs, List.length_cons, List.length_nil, List.take_succ_cons, List.take_zero, List.drop_succ_cons, List.drop_zero, List.drop_nil, List.nil_append, List.cons_append, List.append_nil, Nat.zero_add, Nat.reduceAdd, List.map_cons, List.map_nil, List.set_cons_zero, List.set_cons_succ]
   refine AW.ret ?_
   exact ⟨[_, _], ⟨⟨22, 0, _, _, rfl, rfl, rfl, Try.underlying24, .inr ⟨rfl, _, _, _, _, inf24, rfl, rfl, rfl⟩⟩, rfl, trivial⟩, .inl ⟨by rw [hr]; decide, by rw [hr]; rfl⟩, by simp [tupOf, V.pure, V.has, V.hasL]⟩
  | some X =>
   obtain ⟨L, r⟩ := X
   have hz := hsome L r hs
   obtain ⟨x, hx⟩ : ∃ x, machE ⟨(b2 : Int) - 1, L⟩ = x := ⟨_, rfl⟩
   have hck := Fn.eqi (am_Check ⟨(b2 : Int) - 1, L⟩) hx
   rw [hx] at hz
   by_cases e1 : r = []
   ·have hmc2 : PC Try.prog 49 [.ref 900 0] [(900, tkR (n :: b2 :: R0)), (22, bxM (.i 0) .nil)] [.ref 22 0, .d (bytesD T)] (fun v H' K' => (v = .tup [mV ⟨(b2 : Int) - 1, L⟩, .b true]) ∧ v.pure ∧ H' = [(22, bxM (.i 0) .nil)] ∧ K' = [.ref 22 0, .d (bytesD T)]) := by simpa only [mcP, hs, decide_eq_true e1] using hmc
    by_cases e0 : b0 = 84
    ·by_cases e2 : x = 0
     ·rw [if_pos ⟨e0, e1, e2⟩] at hz
      subst e0
      refine AW.region ?_
      refine AL.rp rfl rfl (rp_move rfl rfl) ?_
      (first | (refine AL.rd rfl rfl (rd_slice_que (j := 1) Try.underlying43 inf5 rfl rfl rfl (by omega) (by omega)) ?_) | (refine AL.rd rfl rfl (rd_slice_fromD (j := 1) Try.underlying43 inf5 rfl rfl rfl (by first | rfl | omega) (by first | assumption | omega) (by assumption)) ?_))
      refine AL.rp rfl rfl (rp_build (vs := [(0, _)]) (zs := [.d (.p (.slice none 0 0))]) pl91 inf91 rfl rfl rfl rfl) ?_
      refine AL.sm rfl (sm_box 900 rfl rfl rfl (by first | rfl | simp [S.clean, S.put, S.newObj, S.forget, V.has, V.hasL, junkIf, setL, V.cs, hasL_i, hasL_d, hasL_b, hasL_s, hasL_n, hasL_rep, hasL_flat, hasL_append, -List.map_set]) rfl) ?_
      refine AL.rp rfl rfl (rp_assign rfl rfl) ?_
      refine AL.nil ?_
      try simp only [thenS, S.put, S.newObj, setL, V.cs, List.length_cons, List.length_nil, List.take_succ_cons, List.take_zero, List.drop_succ_cons, List.drop_zero, List.drop_nil, List.nil_append, List.cons_append, List.append_nil, Nat.zero_add, Nat.reduceAdd, List.map_cons, List.map_nil, List.set_cons_zero, List.set_cons_succ]
      refine AW.seq ?_
      refine AW.region ?_
      refine AL.rp rfl rfl (rp_move rfl rfl) ?_
      try simp only [S.put, S.newObj, setL, V.cs, List.length_cons, List.length_nil, List.take_succ_cons, List.take_zero, List.drop_succ_cons, List.drop_zero, List.drop_nil, List.nil_append, List.cons_append, List.append_nil, Nat.zero_add, Nat.reduceAdd]
      refine AL.pc [2, 4] (ts := [_, _]) (args := [_]) (post := ?pc32) ?hc32 rfl rfl rfl rfl rfl rfl rfl rfl rfl ?_
      case hc32 => (refine hmc2 <;> first | rfl | exact ⟨rfl, rfl, trivial⟩ | exact ⟨rfl, rfl, rfl, rfl, trivial⟩ | exact ⟨rfl, rfl, rfl, rfl, rfl, trivial⟩ | exact ⟨rfl, rfl, rfl, rfl, rfl, rfl, trivial⟩ | exact ⟨rfl, rfl, rfl, rfl, rfl, rfl, rfl, trivial⟩ | (simp [V.lowL, V.low]; done))
      rintro _ _ _ ⟨rfl, -, rfl, rfl⟩
      simp only [back, S.put, List.cons_append, List.nil_append, List.zip_cons_cons, List.zip_nil_left, List.drop_succ_cons, List.drop_zero, List.length_cons, List.length_nil, Nat.zero_add, Nat.reduceAdd]
      refine AL.rp rfl rfl (rp_move rfl rfl) ?_
      refine AL.rp rfl rfl (rp_extract rfl rfl rfl) ?_
      refine AL.rp rfl rfl (rp_extract rfl rfl rfl) ?_
      refine AL.sm rfl (sm_alloc (l := [.d (.p (.int .i64 0)), .d (.p (.slice none 0 0))]) 7 inf24 rfl (by first | rfl | simp [S.clean, S.put, S.newObj, S.forget, V.has, V.hasL, junkIf, setL, V.cs, hasL_i, hasL_d, hasL_b, hasL_s, hasL_n, hasL_rep, hasL_flat, hasL_append, -List.map_set]) rfl rfl) ?_
      refine AL.st rfl (st_store_any inf24 rfl rfl rfl rfl rfl rfl rfl rfl (by first | decide | (simp; done) | (simp; omega)) rfl) ?_
      refine AL.rp rfl rfl (rp_assign rfl rfl) ?_
      refine AL.nil ?_
      try simp only [thenS, S.put, S.newObj, setL, V.cs, List.length_cons, List.length_nil, List.take_succ_cons, List.take_zero, List.drop_succ_cons, List.drop_zero, List.drop_nil, List.nil_append, List.cons_append, List.append_nil, Nat.zero_add, Nat.reduceAdd, List.map_cons, List.map_nil, List.set_cons_zero, List.set_cons_succ]
      refine AW.seq ?_
      refine AW.seq ?_
      refine AW.region ?_
      refine AL.rp rfl rfl (rp_move rfl rfl) ?_
      refine AL.rp rfl rfl (rp_not rfl rfl) ?_
      refine AL.rp rfl rfl (rp_move rfl rfl) ?_
      (first | (refine AL.noV rfl rfl rfl rfl ?_) | (refine AL.noU rfl ⟨_, rfl, rfl⟩ rfl ?_) | (refine AL.rpy rfl rfl rfl (rp_move rfl rfl) ?_))
      (first | (refine AL.noV rfl rfl rfl rfl ?_) | (refine AL.noU rfl ⟨_, rfl, rfl⟩ rfl ?_) | (refine AL.rpy rfl rfl rfl (rp_index_map Try.underlying43 inf5 rfl rfl rfl rfl (by assumption)) ?_) | (refine AL.rpy rfl rfl rfl (rp_index_own Try.underlying43 inf5 rfl rfl rfl rfl (by first | assumption | omega)) ?_) | (refine AL.rpy rfl rfl rfl (rd_index_sl Try.underlying43 inf5 rfl rfl rfl rfl (by assumption)) ?_) | (refine AL.rpy rfl rfl rfl (rp_index_own Try.underlying43 inf5 rfl rfl rfl (by omega) (by omega)) ?_))
      (first | (refine AL.noV rfl rfl rfl rfl ?_) | (refine AL.noU rfl ⟨_, rfl, rfl⟩ rfl ?_) | (refine AL.rdy rfl rfl rfl (rd_load_ref Try.underlying5 rfl rfl rfl rfl rfl rfl) ?_) | (refine AL.rdy rfl rfl rfl (rd_load_ad Try.underlying5 rfl rfl rfl rfl) ?_) | (refine AL.rdy rfl rfl rfl (rd_load_map Try.underlying5 rfl rfl rfl rfl rfl rfl (by assumption)) ?_) | (refine AL.rdy rfl rfl rfl (rd_load_flat Try.underlying5 rfl rfl rfl rfl rfl rfl (fun _ => rfl) (by assumption) rfl) ?_))
      (first | (refine AL.noV rfl rfl rfl rfl ?_) | (refine AL.noU rfl ⟨_, rfl, rfl⟩ rfl ?_) | (refine AL.rpy rfl rfl rfl (rp_neqT rfl rfl rfl (by first | assumption | omega | (dsimp only; omega))) ?_) | (refine AL.rpy rfl rfl rfl (rp_neqF rfl rfl rfl (by first | assumption | omega | (dsimp only; omega))) ?_) | (refine AL.rpy rfl rfl rfl (rp_neq rfl rfl rfl) ?_))
      refine AL.rp rfl rfl (rp_pick rfl rfl rfl) ?_
      refine AL.rp rfl rfl (rp_move rfl rfl) ?_
      (first | (refine AL.noV rfl rfl rfl rfl ?_) | (refine AL.noU rfl ⟨_, rfl, rfl⟩ rfl ?_) | (refine AL.rdy rfl rfl rfl (rd_loads_ref Try.underlying24 rfl inf24 rfl rfl rfl rfl rfl rfl) ?_) | (refine AL.rdy rfl rfl rfl (rd_loads_ad Try.underlying24 rfl inf24 rfl rfl rfl rfl) ?_))
      (first | (refine AL.no rfl rfl rfl rfl ?_) | (refine AL.noU rfl ⟨_, rfl, rfl⟩ rfl ?_) | (refine AL.cally (post := ?pc33) rfl rfl (sm_call (args := [_]) ?hc33 ⟨Try.func10, rfl, rfl, rfl, rfl⟩ rfl rfl rfl rfl) ?_; (case hc33 => (exact hck)); rintro _ rfl -; try dsimp only))
      (first | (refine AL.noV rfl rfl rfl rfl ?_) | (refine AL.noU rfl ⟨_, rfl, rfl⟩ rfl ?_) | (refine AL.rpy rfl rfl rfl (rp_neqT rfl rfl rfl (by first | assumption | omega | (dsimp only; omega))) ?_) | (refine AL.rpy rfl rfl rfl (rp_neqF rfl rfl rfl (by first | assumption | omega | (dsimp only; omega))) ?_) | (refine AL.rpy rfl rfl rfl (rp_neq rfl rfl rfl) ?_))
      refine AL.rp rfl rfl (rp_pick rfl rfl rfl) ?_
      refine AL.nil ?_
      try simp only [thenS, S.put, S.newObj, setL, V.cs, List.length_cons, List.length_nil, List.take_succ_cons, List.take_zero, List.drop_succ_cons, List.drop_zero, List.drop_nil, List.nil_append, List.cons_append, List.append_nil, Nat.zero_add, Nat.reduceAdd, List.map_cons, List.map_nil, List.set_cons_zero, List.set_cons_succ]
      refine AW.condF rfl ?_
      refine AW.skip ?_
      try simp only [thenS]
      refine AW.seq ?_
      refine AW.region ?_
      (first | (refine AL.rd rfl rfl (rd_loads_ref Try.underlying24 rfl inf24 rfl rfl rfl rfl rfl rfl) ?_) | (refine AL.rd rfl rfl (rd_loads_ad Try.underlying24 rfl inf24 rfl rfl rfl rfl) ?_))
      refine AL.st rfl (st_store_any inf24 rfl rfl rfl rfl rfl rfl rfl rfl (by first | decide | (simp; done) | (simp; omega)) rfl) ?_
      refine AL.rp rfl rfl (rp_assign rfl rfl) ?_
      refine AL.nil ?_
      try simp only [thenS, S.put, S.newObj, setL, V.cs, List.length_cons, List.length_nil, List.take_succ_cons, List.take_zero, List.drop_succ_cons, List.drop_zero, List.drop_nil, List.nil_append, List.cons_append, List.append_nil, Nat.zero_add, Nat.reduceAdd, List.map_cons, List.map_nil, List.set_cons_zero, List.set_cons_succ]
      refine AW.ret ?_
      exact ⟨[_, _], ⟨⟨22, 0, _, _, rfl, rfl, rfl, Try.underlying24, .inr ⟨rfl, _, _, _, _, inf24, rfl, rfl, rfl⟩⟩, rfl, trivial⟩, .inr ⟨by rw [hz], by rw [hz]; rfl⟩, by simp [tupOf, V.pure, V.has, V.hasL]⟩
     ·rw [if_neg (fun h => e2 h.2.2)] at hz
      subst e0
      refine AW.region ?_
      refine AL.rp rfl rfl (rp_move rfl rfl) ?_
      (first | (refine AL.rd rfl rfl (rd_slice_que (j := 1) Try.underlying43 inf5 rfl rfl rfl (by omega) (by omega)) ?_) | (refine AL.rd rfl rfl (rd_slice_fromD (j := 1) Try.underlying43 inf5 rfl rfl rfl (by first | rfl | omega) (by first | assumption | omega) (by assumption)) ?_))
      refine AL.rp rfl rfl (rp_build (vs := [(0, _)]) (zs := [.d (.p (.slice none 0 0))]) pl91 inf91 rfl rfl rfl rfl) ?_
      refine AL.sm rfl (sm_box 900 rfl rfl rfl (by first | rfl | simp [S.clean, S.put, S.newObj, S.forget, V.has, V.hasL, junkIf, setL, V.cs, hasL_i, hasL_d, hasL_b, hasL_s, hasL_n, hasL_rep, hasL_flat, hasL_append, -List.map_set]) rfl) ?_
      refine AL.rp rfl rfl (rp_assign rfl rfl) ?_
      refine AL.nil ?_
      try simp only [thenS, S.put, S.newObj, setL, V.cs, List.length_cons, List.length_nil, List.take_succ_cons, List.take_zero, List.drop_succ_cons, List.drop_zero, List.drop_nil, List.nil_append, List.cons_append, List.append_nil, Nat.zero_add, Nat.reduceAdd, List.map_cons, List.map_nil, List.set_cons_zero, List.set_cons_succ]
      refine AW.seq ?_
      refine AW.region ?_
      refine AL.rp rfl rfl (rp_move rfl rfl) ?_
      try simp only [S.put, S.newObj, setL, V.cs, List.length_cons, List.length_nil, List.take_succ_cons, List.take_zero, List.drop_succ_cons, List.drop_zero, List.drop_nil, List.nil_append, List.cons_append, List.append_nil, Nat.zero_add, Nat.reduceAdd]
      refine AL.pc [2, 4] (ts := [_, _]) (args := [_]) (post := ?pc34) ?hc34 rfl rfl rfl rfl rfl rfl rfl rfl rfl ?_
      case hc34 => (refine hmc2 <;> first | rfl | exact ⟨rfl, rfl, trivial⟩ | exact ⟨rfl, rfl, rfl, rfl, trivial⟩ | exact ⟨rfl, rfl, rfl, rfl, rfl, trivial⟩ | exact ⟨rfl, rfl, rfl, rfl, rfl, rfl, trivial⟩ | exact ⟨rfl, rfl, rfl, rfl, rfl, rfl, rfl, trivial⟩ | (simp [V.lowL, V.low]; done))
      rintro _ _ _ ⟨rfl, -, rfl, rfl⟩
      simp only [back, S.put, List.cons_append, List.nil_append, List.zip_cons_cons, List.zip_nil_left, List.drop_succ_cons, List.drop_zero, List.length_cons, List.length_nil, Nat.zero_add, Nat.reduceAdd]
      refine AL.rp rfl rfl (rp_move rfl rfl) ?_
      refine AL.rp rfl rfl (rp_extract rfl rfl rfl) ?_
      refine AL.rp rfl rfl (rp_extract rfl rfl rfl) ?_
      refine AL.sm rfl (sm_alloc (l := [.d (.p (.int .i64 0)), .d (.p (.slice none 0 0))]) 7 inf24 rfl (by first | rfl | simp [S.clean, S.put, S.newObj, S.forget, V.has, V.hasL, junkIf, setL, V.cs, hasL_i, hasL_d, hasL_b, hasL_s, hasL_n, hasL_rep, hasL_flat, hasL_append, -List.map_set]) rfl rfl) ?_
      refine AL.st rfl (st_store_any inf24 rfl rfl rfl rfl rfl rfl rfl rfl (by first | decide | (simp; done) | (simp; omega)) rfl) ?_
      refine AL.rp rfl rfl (rp_assign rfl rfl) ?_
      refine AL.nil ?_
      try simp only [thenS, S.put, S.newObj, setL, V.cs, List.length_cons, List.length_nil, List.take_succ_cons, List.take_zero, List.drop_succ_cons, List.drop_zero, List.drop_nil, List.nil_append, List.cons_append, List.append_nil, Nat.zero_add, Nat.reduceAdd, List.map_cons, List.map_nil, List.set_cons_zero, List.set_cons_succ]
      refine AW.seq ?_
      refine AW.seq ?_
      refine AW.region ?_
      refine AL.rp rfl rfl (rp_move rfl rfl) ?_
      refine AL.rp rfl rfl (rp_not rfl rfl) ?_
      refine AL.rp rfl rfl (rp_move rfl rfl) ?_
      (first | (refine AL.noV rfl rfl rfl rfl ?_) | (refine AL.noU rfl ⟨_, rfl, rfl⟩ rfl ?_) | (refine AL.rpy rfl rfl rfl (rp_move rfl rfl) ?_))
      (first | (refine AL.noV rfl rfl rfl rfl ?_) | (refine AL.noU rfl ⟨_, rfl, rfl⟩ rfl ?_) | (refine AL.rpy rfl rfl rfl (rp_index_map Try.underlying43 inf5 rfl rfl rfl rfl (by assumption)) ?_) | (refine AL.rpy rfl rfl rfl (rp_index_own Try.underlying43 inf5 rfl rfl rfl rfl (by first | assumption | omega)) ?_) | (refine AL.rpy rfl rfl rfl (rd_index_sl Try.underlying43 inf5 rfl rfl rfl rfl (by assumption)) ?_) | (refine AL.rpy rfl rfl rfl (rp_index_own Try.underlying43 inf5 rfl rfl rfl (by omega) (by omega)) ?_))
      (first | (refine AL.noV rfl rfl rfl rfl ?_) | (refine AL.noU rfl ⟨_, rfl, rfl⟩ rfl ?_) | (refine AL.rdy rfl rfl rfl (rd_load_ref Try.underlying5 rfl rfl rfl rfl rfl rfl) ?_) | (refine AL.rdy rfl rfl rfl (rd_load_ad Try.underlying5 rfl rfl rfl rfl) ?_) | (refine AL.rdy rfl rfl rfl (rd_load_map Try.underlying5 rfl rfl rfl rfl rfl rfl (by assumption)) ?_) | (refine AL.rdy rfl rfl rfl (rd_load_flat Try.underlying5 rfl rfl rfl rfl rfl rfl (fun _ => rfl) (by assumption) rfl) ?_))
      (first | (refine AL.noV rfl rfl rfl rfl ?_) | (refine AL.noU rfl ⟨_, rfl, rfl⟩ rfl ?_) | (refine AL.rpy rfl rfl rfl (rp_neqT rfl rfl rfl (by first | assumption | omega | (dsimp only; omega))) ?_) | (refine AL.rpy rfl rfl rfl (rp_neqF rfl rfl rfl (by first | assumption | omega | (dsimp only; omega))) ?_) | (refine AL.rpy rfl rfl rfl (rp_neq rfl rfl rfl) ?_))
      refine AL.rp rfl rfl (rp_pick rfl rfl rfl) ?_
      refine AL.rp rfl rfl (rp_move rfl rfl) ?_
      (first | (refine AL.noV rfl rfl rfl rfl ?_) | (refine AL.noU rfl ⟨_, rfl, rfl⟩ rfl ?_) | (refine AL.rdy rfl rfl rfl (rd_loads_ref Try.underlying24 rfl inf24 rfl rfl rfl rfl rfl rfl) ?_) | (refine AL.rdy rfl rfl rfl (rd_loads_ad Try.underlying24 rfl inf24 rfl rfl rfl rfl) ?_))
      (first | (refine AL.no rfl rfl rfl rfl ?_) | (refine AL.noU rfl ⟨_, rfl, rfl⟩ rfl ?_) | (refine AL.cally (post := ?pc35) rfl rfl (sm_call (args := [_]) ?hc35 ⟨Try.func10, rfl, rfl, rfl, rfl⟩ rfl rfl rfl rfl) ?_; (case hc35 => (exact hck)); rintro _ rfl -; try dsimp only))
      (first | (refine AL.noV rfl rfl rfl rfl ?_) | (refine AL.noU rfl ⟨_, rfl, rfl⟩ rfl ?_) | (refine AL.rpy rfl rfl rfl (rp_neqT rfl rfl rfl (by first | assumption | omega | (dsimp only; omega))) ?_) | (refine AL.rpy rfl rfl rfl (rp_neqF rfl rfl rfl (by first | assumption | omega | (dsimp only; omega))) ?_) | (refine AL.rpy rfl rfl rfl (rp_neq rfl rfl rfl) ?_))
      refine AL.rp rfl rfl (rp_pick rfl rfl rfl) ?_
      refine AL.nil ?_
      try simp only [thenS, S.put, S.newObj, setL, V.cs, List.length_cons, List.length_nil, List.take_succ_cons, List.take_zero, List.drop_succ_cons, List.drop_zero, List.drop_nil, List.nil_append, List.cons_append, List.append_nil, Nat.zero_add, Nat.reduceAdd, List.map_cons, List.map_nil, List.set_cons_zero, List.set_cons_succ]
      refine AW.condT rfl ?_
      refine AW.seq ?_
      refine AW.region ?_
      refine AL.rp rfl rfl (rp_build (vs := []) (zs := [.d (.p (.int .i64 0)), .d (.p (.slice none 0 0))]) pl24 inf24 rfl rfl rfl rfl) ?_
      refine AL.st rfl (st_store_any inf24 rfl rfl rfl rfl rfl rfl rfl rfl (by first | decide | (simp; done) | (simp; omega)) rfl) ?_
      refine AL.rp rfl rfl (rp_assign rfl rfl) ?_
      refine AL.nil ?_
      try simp only [thenS, S.put, S.newObj, setL, V.cs, List.length_cons, List.length_nil, List.take_succ_cons, List.take_zero, List.drop_succ_cons, List.drop_zero, List.drop_nil, List.nil_append, List.cons_append, List.append_nil, Nat.zero_add, Nat.reduceAdd, List.map_cons, List.map_nil, List.set_cons_zero, List.set_cons_succ]
      refine AW.ret ?_
      exact ⟨[_, _], ⟨⟨22, 0, _, _, rfl, rfl, rfl, Try.underlying24, .inr ⟨rfl, _, _, _, _, inf24, rfl, rfl, rfl⟩⟩, rfl, trivial⟩, .inl ⟨by rw [hz]; decide, by rw [hz]; rfl⟩, by simp [tupOf, V.pure, V.has, V.hasL]⟩
    ·rw [if_neg (fun h => e0 h.1)] at hz
     refine AW.region ?_
     refine AL.rp rfl rfl (rp_move rfl rfl) ?_
     (first | (refine AL.rd rfl rfl (rd_slice_que (j := 1) Try.underlying43 inf5 rfl rfl rfl (by omega) (by omega)) ?_) | (refine AL.rd rfl rfl (rd_slice_fromD (j := 1) Try.underlying43 inf5 rfl rfl rfl (by first | rfl | omega) (by first | assumption | omega) (by assumption)) ?_))
     refine AL.rp rfl rfl (rp_build (vs := [(0, _)]) (zs := [.d (.p (.slice none 0 0))]) pl91 inf91 rfl rfl rfl rfl) ?_
     refine AL.sm rfl (sm_box 900 rfl rfl rfl (by first | rfl | simp [S.clean, S.put, S.newObj, S.forget, V.has, V.hasL, junkIf, setL, V.cs, hasL_i, hasL_d, hasL_b, hasL_s, hasL_n, hasL_rep, hasL_flat, hasL_append, -List.map_set]) rfl) ?_
     refine AL.rp rfl rfl (rp_assign rfl rfl) ?_
     refine AL.nil ?_
     try simp only [thenS, S.put, S.newObj, setL, V.cs, List.length_cons, List.length_nil, List.take_succ_cons, List.take_zero, List.drop_succ_cons, List.drop_zero, List.drop_nil, List.nil_append, List.cons_append, List.append_nil, Nat.zero_add, Nat.reduceAdd, List.map_cons, List.map_nil, List.set_cons_zero, List.set_cons_succ]
     refine AW.seq ?_
     refine AW.region ?_
     refine AL.rp rfl rfl (rp_move rfl rfl) ?_
     try simp only [S.put, S.newObj, setL, V.cs, List.length_cons, List.length_nil, List.take_succ_cons, List.take_zero, List.drop_succ_cons, List.drop_zero, List.drop_nil, List.nil_append, List.cons_append, List.append_nil, Nat.zero_add, Nat.reduceAdd]
     refine AL.pc [2, 4] (ts := [_, _]) (args := [_]) (post := ?pc36) ?hc36 rfl rfl rfl rfl rfl rfl rfl rfl rfl ?_
     case hc36 => (refine hmc2 <;> first | rfl | exact ⟨rfl, rfl, trivial⟩ | exact ⟨rfl, rfl, rfl, rfl, trivial⟩ | exact ⟨rfl, rfl, rfl, rfl, rfl, trivial⟩ | exact ⟨rfl, rfl, rfl, rfl, rfl, rfl, trivial⟩ | exact ⟨rfl, rfl, rfl, rfl, rfl, rfl, rfl, trivial⟩ | (simp [V.lowL, V.low]; done))
     rintro _ _ _ ⟨rfl, -, rfl, rfl⟩
     simp only [back, S.put, List.cons_append, List.nil_append, List.zip_cons_cons, List.zip_nil_left, List.drop_succ_cons, List.drop_zero, List.length_cons, List.length_nil, Nat.zero_add, Nat.reduceAdd]
     refine AL.rp rfl rfl (rp_move rfl rfl) ?_
     refine AL.rp rfl rfl (rp_extract rfl rfl rfl) ?_
     refine AL.rp rfl rfl (rp_extract rfl rfl rfl) ?_
     refine AL.sm rfl (sm_alloc (l := [.d (.p (.int .i64 0)), .d (.p (.slice none 0 0))]) 7 inf24 rfl (by first | rfl | simp [S.clean, S.put, S.newObj, S.forget, V.has, V.hasL, junkIf, setL, V.cs, hasL_i, hasL_d, hasL_b, hasL_s, hasL_n, hasL_rep, hasL_flat, hasL_append, -List.map_set]) rfl rfl) ?_
     refine AL.st rfl (st_store_any inf24 rfl rfl rfl rfl rfl rfl rfl rfl (by first | decide | (simp; done) | (simp; omega)) rfl) ?_
     refine AL.rp rfl rfl (rp_assign rfl rfl) ?_
     refine AL.nil ?_
     try simp only [thenS, S.put, S.newObj, setL, V.cs, List.length_cons, List.length_nil, List.take_succ_cons, List.take_zero, List.drop_succ_cons, List.drop_zero, List.drop_nil, List.nil_append, List.cons_append, List.append_nil, Nat.zero_add, Nat.reduceAdd, List.map_cons, List.map_nil, List.set_cons_zero, List.set_cons_succ]
     refine AW.seq ?_
     refine AW.seq ?_
     refine AW.region ?_
     refine AL.rp rfl rfl (rp_move rfl rfl) ?_
     refine AL.rp rfl rfl (rp_not rfl rfl) ?_
     refine AL.rp rfl rfl (rp_move rfl rfl) ?_
     (first | (refine AL.noV rfl rfl rfl rfl ?_) | (refine AL.noU rfl ⟨_, rfl, rfl⟩ rfl ?_) | (refine AL.rpy rfl rfl rfl (rp_move rfl rfl) ?_))
     (first | (refine AL.noV rfl rfl rfl rfl ?_) | (refine AL.noU rfl ⟨_, rfl, rfl⟩ rfl ?_) | (refine AL.rpy rfl rfl rfl (rp_index_map Try.underlying43 inf5 rfl rfl rfl rfl (by assumption)) ?_) | (refine AL.rpy rfl rfl rfl (rp_index_own Try.underlying43 inf5 rfl rfl rfl rfl (by first | assumption | omega)) ?_) | (refine AL.rpy rfl rfl rfl (rd_index_sl Try.underlying43 inf5 rfl rfl rfl rfl (by assumption)) ?_) | (refine AL.rpy rfl rfl rfl (rp_index_own Try.underlying43 inf5 rfl rfl rfl (by omega) (by omega)) ?_))
     (first | (refine AL.noV rfl rfl rfl rfl ?_) | (refine AL.noU rfl ⟨_, rfl, rfl⟩ rfl ?_) | (refine AL.rdy rfl rfl rfl (rd_load_ref Try.underlying5 rfl rfl rfl rfl rfl rfl) ?_) | (refine AL.rdy rfl rfl rfl (rd_load_ad Try.underlying5 rfl rfl rfl rfl) ?_) | (refine AL.rdy rfl rfl rfl (rd_load_map Try.underlying5 rfl rfl rfl rfl rfl rfl (by assumption)) ?_) | (refine AL.rdy rfl rfl rfl (rd_load_flat Try.underlying5 rfl rfl rfl rfl rfl rfl (fun _ => rfl) (by assumption) rfl) ?_))
     (first | (refine AL.noV rfl rfl rfl rfl ?_) | (refine AL.noU rfl ⟨_, rfl, rfl⟩ rfl ?_) | (refine AL.rpy rfl rfl rfl (rp_neqT rfl rfl rfl (by first | assumption | omega | (dsimp only; omega))) ?_) | (refine AL.rpy rfl rfl rfl (rp_neqF rfl rfl rfl (by first | assumption | omega | (dsimp only; omega))) ?_) | (refine AL.rpy rfl rfl rfl (rp_neq rfl rfl rfl) ?_))
     refine AL.rp rfl rfl (rp_pick rfl rfl rfl) ?_
     refine AL.rp rfl rfl (rp_move rfl rfl) ?_
     (first | (refine AL.noV rfl rfl rfl rfl ?_) | (refine AL.noU rfl ⟨_, rfl, rfl⟩ rfl ?_) | (refine AL.rdy rfl rfl rfl (rd_loads_ref Try.underlying24 rfl inf24 rfl rfl rfl rfl rfl rfl) ?_) | (refine AL.rdy rfl rfl rfl (rd_loads_ad Try.underlying24 rfl inf24 rfl rfl rfl rfl) ?_))
     (first | (refine AL.no rfl rfl rfl rfl ?_) | (refine AL.noU rfl ⟨_, rfl, rfl⟩ rfl ?_) | (refine AL.cally (post := ?pc37) rfl rfl (sm_call (args := [_]) ?hc37 ⟨Try.func10, rfl, rfl, rfl, rfl⟩ rfl rfl rfl rfl) ?_; (case hc37 => (exact hck)); rintro _ rfl -; try dsimp only))
     (first | (refine AL.noV rfl rfl rfl rfl ?_) | (refine AL.noU rfl ⟨_, rfl, rfl⟩ rfl ?_) | (refine AL.rpy rfl rfl rfl (rp_neqT rfl rfl rfl (by first | assumption | omega | (dsimp only; omega))) ?_) | (refine AL.rpy rfl rfl rfl (rp_neqF rfl rfl rfl (by first | assumption | omega | (dsimp only; omega))) ?_) | (refine AL.rpy rfl rfl rfl (rp_neq rfl rfl rfl) ?_))
     refine AL.rp rfl rfl (rp_pick rfl rfl rfl) ?_
     refine AL.nil ?_
     try simp only [thenS, S.put, S.newObj, setL, V.cs, List.length_cons, List.length_nil, List.take_succ_cons, List.take_zero, List.drop_succ_cons, List.drop_zero, List.drop_nil, List.nil_append, List.cons_append, List.append_nil, Nat.zero_add, Nat.reduceAdd, List.map_cons, List.map_nil, List.set_cons_zero, List.set_cons_succ]
     refine AW.condT rfl ?_
     refine AW.seq ?_
     refine AW.region ?_
     refine AL.rp rfl rfl (rp_build (vs := []) (zs := [.d (.p (.int .i64 0)), .d (.p (.slice none 0 0))]) pl24 inf24 rfl rfl rfl rfl) ?_
     refine AL.st rfl (st_store_any inf24 rfl rfl rfl rfl rfl rfl rfl rfl (by first | decide | (simp; done) | (simp; omega)) rfl) ?_
     refine AL.rp rfl rfl (rp_assign rfl rfl) ?_
     refine AL.nil ?_
     try simp only [thenS, S.put, S.newObj, setL, V.cs, List.length_cons, List.length_nil, List.take_succ_cons, List.take_zero, List.drop_succ_cons, List.drop_zero, List.drop_nil, List.nil_append, List.cons_append, List.append_nil, Nat.zero_add, Nat.reduceAdd, List.map_cons, List.map_nil, List.set_cons_zero, List.set_cons_succ]
     refine AW.ret ?_
     exact ⟨[_, _], ⟨⟨22, 0, _, _, rfl, rfl, rfl, Try.underlying24, .inr ⟨rfl, _, _, _, _, inf24, rfl, rfl, rfl⟩⟩, rfl, trivial⟩, .inl ⟨by rw [hz]; decide, by rw [hz]; rfl⟩, by simp [tupOf, V.pure, V.has, V.hasL]⟩
   ·have hmc2 : PC Try.prog 49 [.ref 900 0] [(900, tkR (n :: b2 :: R0)), (22, bxM (.i 0) .nil)] [.ref 22 0, .d (bytesD T)] (fun v H' K' => (v = .tup [mV ⟨(b2 : Int) - 1, L⟩, .b false]) ∧ v.pure ∧ H' = [(22, bxM (.i 0) .nil)] ∧ K' = [.ref 22 0, .d (bytesD T)]) := by simpa only [mcP, hs, decide_eq_false e1] using hmc
    rw [if_neg (fun h => e1 h.2.1)] at hz
    refine AW.region ?_
    refine AL.rp rfl rfl (rp_move rfl rfl) ?_
    (first | (refine AL.rd rfl rfl (rd_slice_que (j := 1) Try.underlying43 inf5 rfl rfl rfl (by omega) (by omega)) ?_) | (refine AL.rd rfl rfl (rd_slice_fromD (j := 1) Try.underlying43 inf5 rfl rfl rfl (by first | rfl | omega) (by first | assumption | omega) (by assumption)) ?_))
    refine AL.rp rfl rfl (rp_build (vs := [(0, _)]) (zs := [.d (.p (.slice none 0 0))]) pl91 inf91 rfl rfl rfl rfl) ?_
    refine AL.sm rfl (sm_box 900 rfl rfl rfl (by first | rfl | simp [S.clean, S.put, S.newObj, S.forget, V.has, V.hasL, junkIf, setL, V.cs, hasL_i, hasL_d, hasL_b, hasL_s, hasL_n, hasL_rep, hasL_flat, hasL_append, -List.map_set]) rfl) ?_
    refine AL.rp rfl rfl (rp_assign rfl rfl) ?_
    refine AL.nil ?_
    try simp only [thenS, S.put, S.newObj, setL, V.cs, List.length_cons, List.length_nil, List.take_succ_cons, List.take_zero, List.drop_succ_cons, List.drop_zero, List.drop_nil, List.nil_append, List.cons_append, List.append_nil, Nat.zero_add, Nat.reduceAdd, List.map_cons, List.map_nil, List.set_cons_zero, List.set_cons_succ]
    refine AW.seq ?_
    refine AW.region ?_
    refine AL.rp rfl rfl (rp_move rfl rfl) ?_
    try simp only [S.put, S.newObj, setL, V.cs, List.length_cons, List.length_nil, List.take_succ_cons, List.take_zero, List.drop_succ_cons, List.drop_zero, List.drop_nil, List.nil_append, List.cons_append, List.append_nil, Nat.zero_add, Nat.reduceAdd]
    refine AL.pc [2, 4] (ts := [_, _]) (args := [_]) (post := ?pc38) ?hc38 rfl rfl rfl rfl rfl rfl rfl rfl rfl ?_
    case hc38 => (refine hmc2 <;> first | rfl | exact ⟨rfl, rfl, trivial⟩ | exact ⟨rfl, rfl, rfl, rfl, trivial⟩ | exact ⟨rfl, rfl, rfl, rfl, rfl, trivial⟩ | exact ⟨rfl, rfl, rfl, rfl, rfl, rfl, trivial⟩ | exact ⟨rfl, rfl, rfl, rfl, rfl, rfl, rfl, trivial⟩ | (simp [V.lowL, V.low]; done))
    rintro _ _ _ ⟨rfl, -, rfl, rfl⟩
    simp only [back, S.put, List.cons_append, List.nil_append, List.zip_cons_cons, List.zip_nil_left, List.drop_succ_cons, List.drop_zero, List.length_cons, List.length_nil, Nat.zero_add, Nat.reduceAdd]
    refine AL.rp rfl rfl (rp_move rfl rfl) ?_
    refine AL.rp rfl rfl (rp_extract rfl rfl rfl) ?_
    refine AL.rp rfl rfl (rp_extract rfl rfl rfl) ?_
    refine AL.sm rfl (sm_alloc (l := [.d (.p (.int .i64 0)), .d (.p (.slice none 0 0))]) 7 inf24 rfl (by first | rfl | simp [S.clean, S.put, S.newObj, S.forget, V.has, V.hasL, junkIf, setL, V.cs, hasL_i, hasL_d, hasL_b, hasL_s, hasL_n, hasL_rep, hasL_flat, hasL_append, -List.map_set]) rfl rfl) ?_
    refine AL.st rfl (st_store_any inf24 rfl rfl rfl rfl rfl rfl rfl rfl (by first | decide | (simp; done) | (simp; omega)) rfl) ?_
    refine AL.rp rfl rfl (rp_assign rfl rfl) ?_
    refine AL.nil ?_
    try simp only [thenS, S.put, S.newObj, setL, V.cs, List.length_cons, List.length_nil, List.take_succ_cons, List.take_zero, List.drop_succ_cons, List.drop_zero, List.drop_nil, List.nil_append, List.cons_append, List.append_nil, Nat.zero_add, Nat.reduceAdd, List.map_cons, List.map_nil, List.set_cons_zero, List.set_cons_succ]
    refine AW.seq ?_
    refine AW.seq ?_
    refine AW.region ?_
    refine AL.rp rfl rfl (rp_move rfl rfl) ?_
    refine AL.rp rfl rfl (rp_not rfl rfl) ?_
    refine AL.rp rfl rfl (rp_move rfl rfl) ?_
    (first | (refine AL.noV rfl rfl rfl rfl ?_) | (refine AL.noU rfl ⟨_, rfl, rfl⟩ rfl ?_) | (refine AL.rpy rfl rfl rfl (rp_move rfl rfl) ?_))
    (first | (refine AL.noV rfl rfl rfl rfl ?_) | (refine AL.noU rfl ⟨_, rfl, rfl⟩ rfl ?_) | (refine AL.rpy rfl rfl rfl (rp_index_map Try.underlying43 inf5 rfl rfl rfl rfl (by assumption)) ?_) | (refine AL.rpy rfl rfl rfl (rp_index_own Try.underlying43 inf5 rfl rfl rfl rfl (by first | assumption | omega)) ?_) | (refine AL.rpy rfl rfl rfl (rd_index_sl Try.underlying43 inf5 rfl rfl rfl rfl (by assumption)) ?_) | (refine AL.rpy rfl rfl rfl (rp_index_own Try.underlying43 inf5 rfl rfl rfl (by omega) (by omega)) ?_))
    (first | (refine AL.noV rfl rfl rfl rfl ?_) | (refine AL.noU rfl ⟨_, rfl, rfl⟩ rfl ?_) | (refine AL.rdy rfl rfl rfl (rd_load_ref Try.underlying5 rfl rfl rfl rfl rfl rfl) ?_) | (refine AL.rdy rfl rfl rfl (rd_load_ad Try.underlying5 rfl rfl rfl rfl) ?_) | (refine AL.rdy rfl rfl rfl (rd_load_map Try.underlying5 rfl rfl rfl rfl rfl rfl (by assumption)) ?_) | (refine AL.rdy rfl rfl rfl (rd_load_flat Try.underlying5 rfl rfl rfl rfl rfl rfl (fun _ => rfl) (by assumption) rfl) ?_))
    (first | (refine AL.noV rfl rfl rfl rfl ?_) | (refine AL.noU rfl ⟨_, rfl, rfl⟩ rfl ?_) | (refine AL.rpy rfl rfl rfl (rp_neqT rfl rfl rfl (by first | assumption | omega | (dsimp only; omega))) ?_) | (refine AL.rpy rfl rfl rfl (rp_neqF rfl rfl rfl (by first | assumption | omega | (dsimp only; omega))) ?_) | (refine AL.rpy rfl rfl rfl (rp_neq rfl rfl rfl) ?_))
    refine AL.rp rfl rfl (rp_pick rfl rfl rfl) ?_
    refine AL.rp rfl rfl (rp_move rfl rfl) ?_
    (first | (refine AL.noV rfl rfl rfl rfl ?_) | (refine AL.noU rfl ⟨_, rfl, rfl⟩ rfl ?_) | (refine AL.rdy rfl rfl rfl (rd_loads_ref Try.underlying24 rfl inf24 rfl rfl rfl rfl rfl rfl) ?_) | (refine AL.rdy rfl rfl rfl (rd_loads_ad Try.underlying24 rfl inf24 rfl rfl rfl rfl) ?_))
    (first | (refine AL.no rfl rfl rfl rfl ?_) | (refine AL.noU rfl ⟨_, rfl, rfl⟩ rfl ?_) | (refine AL.cally (post := ?pc39) rfl rfl (sm_call (args := [_]) ?hc39 ⟨Try.func10, rfl, rfl, rfl, rfl⟩ rfl rfl rfl rfl) ?_; (case hc39 => (exact hck)); rintro _ rfl -; try dsimp only))
    (first | (refine AL.noV rfl rfl rfl rfl ?_) | (refine AL.noU rfl ⟨_, rfl, rfl⟩ rfl ?_) | (refine AL.rpy rfl rfl rfl (rp_neqT rfl rfl rfl (by first | assumption | omega | (dsimp only; omega))) ?_) | (refine AL.rpy rfl rfl rfl (rp_neqF rfl rfl rfl (by first | assumption | omega | (dsimp only; omega))) ?_) | (refine AL.rpy rfl rfl rfl (rp_neq rfl rfl rfl) ?_))
    refine AL.rp rfl rfl (rp_pick rfl rfl rfl) ?_
    refine AL.nil ?_
    try simp only [thenS, S.put, S.newObj, setL, V.cs, List.length_cons, List.length_nil, List.take_succ_cons, List.take_zero, List.drop_succ_cons, List.drop_zero, List.drop_nil, List.nil_append, List.cons_append, List.append_nil, Nat.zero_add, Nat.reduceAdd, List.map_cons, List.map_nil, List.set_cons_zero, List.set_cons_succ]
    refine AW.condT rfl ?_
    refine AW.seq ?_
    refine AW.region ?_
    refine AL.rp rfl rfl (rp_build (vs := []) (zs := [.d (.p (.int .i64 0)), .d (.p (.slice none 0 0))]) pl24 inf24 rfl rfl rfl rfl) ?_
    refine AL.st rfl (st_store_any inf24 rfl rfl rfl rfl rfl rfl rfl rfl (by first | decide | (simp; done) | (simp; omega)) rfl) ?_
    refine AL.rp rfl rfl (rp_assign rfl rfl) ?_
    refine AL.nil ?_
    try simp only [thenS, S.put, S.newObj, setL, V.cs, List.length_cons, List.length_nil, List.take_succ_cons, List.take_zero, List.drop_succ_cons, List.drop_zero, List.drop_nil, List.nil_append, List.cons_append, List.append_nil, Nat.zero_add, Nat.reduceAdd, List.map_cons, List.map_nil, List.set_cons_zero, List.set_cons_succ]
    refine AW.ret ?_
    exact ⟨[_, _], ⟨⟨22, 0, _, _, rfl, rfl, rfl, Try.underlying24, .inr ⟨rfl, _, _, _, _, inf24, rfl, rfl, rfl⟩⟩, rfl, trivial⟩, .inl ⟨by rw [hz]; decide, by rw [hz]; rfl⟩, by simp [tupOf, V.pure, V.has, V.hasL]⟩
 ·have hr := hsum hc
  have hcJ : ¬ (J : Int) = (C : Int) := by omega
  refine AW.seq ?_
  refine AW.region ?_
  refine AL.sm rfl (sm_alloc (l := [.d (.p (.int .i64 0)), .d (.p (.slice none 0 0))]) 22 inf24 rfl (by first | rfl | simp [S.clean, S.put, S.newObj, S.forget, V.has, V.hasL, junkIf, setL, V.cs, hasL_i, hasL_d, hasL_b, hasL_s, hasL_n, hasL_rep, hasL_flat, hasL_append, -List.map_set]) rfl rfl) ?_
  refine AL.rp rfl rfl (rp_assign rfl rfl) ?_
  refine AL.nil ?_
  try simp only [thenS, S.put, S.newObj, setL, V.cs, List.length_cons, List.length_nil, List.take_succ_cons, List.take_zero, List.drop_succ_cons, List.drop_zero, List.drop_nil, List.nil_append, List.cons_append, List.append_nil, Nat.zero_add, Nat.reduceAdd, List.map_cons, List.map_nil, List.set_cons_zero, List.set_cons_succ, enum]
  refine AW.seq ?_
  refine AW.seq ?_
  refine AW.region ?_
  refine AL.rp rfl rfl (rp_move rfl rfl) ?_
  (first | (refine AL.rp rfl rfl (rp_len_map Try.underlying43 rfl rfl (by assumption)) ?_) | (refine AL.rp rfl rfl (rp_len_own Try.underlying43 rfl rfl) ?_) | (refine AL.rp rfl rfl (rp_len_sl Try.underlying43 rfl rfl) ?_) | (refine AL.rp rfl rfl (rp_len_nil Try.underlying43 rfl rfl) ?_) | (refine AL.rp rfl rfl (rp_len_str Try.underlying43 rfl rfl) ?_))
  (first | (refine AL.rp rfl rfl (rp_gtrT rfl rfl rfl (by first | assumption | omega | (dsimp only; omega))) ?_) | (refine AL.rp rfl rfl (rp_gtrF rfl rfl rfl (by first | assumption | omega | (dsimp only; omega))) ?_) | (refine AL.rp rfl rfl (rp_gtr rfl rfl rfl) ?_))
  refine AL.nil ?_
  try simp only [thenS, S.put]
  refine AW.condF rfl ?_
  refine AW.skip ?_
  try simp only [thenS]
  refine AW.seq ?_
  refine AW.seq ?_
  refine AW.region ?_
  refine AL.rp rfl rfl (rp_move rfl rfl) ?_
  (first | (refine AL.rp rfl rfl (rp_len_map Try.underlying43 rfl rfl (by assumption)) ?_) | (refine AL.rp rfl rfl (rp_len_own Try.underlying43 rfl rfl) ?_) | (refine AL.rp rfl rfl (rp_len_sl Try.underlying43 rfl rfl) ?_) | (refine AL.rp rfl rfl (rp_len_nil Try.underlying43 rfl rfl) ?_) | (refine AL.rp rfl rfl (rp_len_str Try.underlying43 rfl rfl) ?_))
  (first | (refine AL.rp rfl rfl (rp_lssT rfl rfl rfl (by first | assumption | omega | (dsimp only; omega))) ?_) | (refine AL.rp rfl rfl (rp_lssF rfl rfl rfl (by first | assumption | omega | (dsimp only; omega))) ?_) | (refine AL.rp rfl rfl (rp_lss rfl rfl rfl) ?_))
  refine AL.nil ?_
  try simp only [thenS, S.put]
  refine AW.condF rfl ?_
  refine AW.skip ?_
  try simp only [thenS]
  refine AW.seq ?_
  refine AW.drawT (N := ?N41) (l := #[false, false, false, false, false, false, false, false, false, false, false, false, false, false]) 14 (by kernel_rfl) rfl rfl ?_ ?_
  rotate_left
  refine AN.rp (i := 0) (l' := #[true, false, false, false, false, false, false, false, false, false, false, false, false, false]) rfl rfl rfl (fun _ _ h => h) (by kernel_rfl) rfl (rp_move rfl rfl) ?_
  refine AN.rp (i := 1) (l' := #[true, true, false, false, false, false, false, false, false, false, false, false, false, false]) rfl rfl rfl (fun _ _ h => h) (by kernel_rfl) rfl (rp_move rfl rfl) ?_
  (first | (refine AN.rp (i := 2) (l' := #[true, true, true, false, false, false, false, false, false, false, false, false, false, false]) rfl rfl rfl (fun _ _ h => h) (by kernel_rfl) rfl (rp_len_map Try.underlying43 rfl rfl (by assumption)) ?_) | (refine AN.rp (i := 2) (l' := #[true, true, true, false, false, false, false, false, false, false, false, false, false, false]) rfl rfl rfl (fun _ _ h => h) (by kernel_rfl) rfl (rp_len_own Try.underlying43 rfl rfl) ?_) | (refine AN.rp (i := 2) (l' := #[true, true, true, false, false, false, false, false, false, false, false, false, false, false]) rfl rfl rfl (fun _ _ h => h) (by kernel_rfl) rfl (rp_len_sl Try.underlying43 rfl rfl) ?_) | (refine AN.rp (i := 2) (l' := #[true, true, true, false, false, false, false, false, false, false, false, false, false, false]) rfl rfl rfl (fun _ _ h => h) (by kernel_rfl) rfl (rp_len_nil Try.underlying43 rfl rfl) ?_) | (refine AN.rp (i := 2) (l' := #[true, true, true, false, false, false, false, false, false, false, false, false, false, false]) rfl rfl rfl (fun _ _ h => h) (by kernel_rfl) rfl (rp_len_str Try.underlying43 rfl rfl) ?_))
  refine AN.rp (i := 3) (l' := #[true, true, true, true, false, false, false, false, false, false, false, false, false, false]) rfl rfl rfl (fun _ _ h => h) (by kernel_rfl) rfl (rp_subZ ((E : Int)) rfl rfl rfl (by omega) (by omega)) ?_
  refine AN.rp (i := 5) (l' := #[true, true, true, true, false, true, false, false, false, false, false, false, false, false]) rfl rfl rfl (fun _ _ h => h) (by kernel_rfl) rfl (rp_move rfl rfl) ?_
  refine AN.rp (i := 6) (l' := #[true, true, true, true, false, true, true, false, false, false, false, false, false, false]) rfl rfl rfl (fun _ _ h => h) (by kernel_rfl) rfl (rp_move rfl rfl) ?_
  (first | (refine AN.rp (i := 7) (l' := #[true, true, true, true, false, true, true, true, false, false, false, false, false, false]) rfl rfl rfl (fun _ _ h => h) (by kernel_rfl) rfl (rp_len_map Try.underlying43 rfl rfl (by assumption)) ?_) | (refine AN.rp (i := 7) (l' := #[true, true, true, true, false, true, true, true, false, false, false, false, false, false]) rfl rfl rfl (fun _ _ h => h) (by kernel_rfl) rfl (rp_len_own Try.underlying43 rfl rfl) ?_) | (refine AN.rp (i := 7) (l' := #[true, true, true, true, false, true, true, true, false, false, false, false, false, false]) rfl rfl rfl (fun _ _ h => h) (by kernel_rfl) rfl (rp_len_sl Try.underlying43 rfl rfl) ?_) | (refine AN.rp (i := 7) (l' := #[true, true, true, true, false, true, true, true, false, false, false, false, false, false]) rfl rfl rfl (fun _ _ h => h) (by kernel_rfl) rfl (rp_len_nil Try.underlying43 rfl rfl) ?_) | (refine AN.rp (i := 7) (l' := #[true, true, true, true, false, true, true, true, false, false, false, false, false, false]) rfl rfl rfl (fun _ _ h => h) (by kernel_rfl) rfl (rp_len_str Try.underlying43 rfl rfl) ?_))
  refine AN.rp (i := 8) (l' := #[true, true, true, true, false, true, true, true, true, false, false, false, false, false]) rfl rfl rfl (fun _ _ h => h) (by kernel_rfl) rfl (rp_subZ ((E : Int)) rfl rfl rfl (by omega) (by omega)) ?_
  refine AN.br2 (i := 4) (j := 9) (by kernel_rfl) ?_ ?_
  ·refine BR.mk (l' := #[true, true, true, true, true, true, true, true, true, false, false, false, false, false]) rfl rfl rfl ?_
   (first | (refine ST.rd rfl (rp_slice_own (k := E) Try.underlying43 inf5 rfl rfl rfl (by first | rfl | omega) (by omega)) ?_) | (refine ST.rd rfl (rd_slice_to (k := E) Try.underlying43 inf5 rfl rfl rfl (by first | rfl | omega) (by first | assumption | omega) (by assumption)) ?_))
   refine AN.rp (i := 12) (l' := #[true, true, true, true, true, true, true, true, true, false, false, false, true, false]) rfl rfl rfl (fun _ _ h => h) (by kernel_rfl) rfl (rp_assign rfl rfl) ?_
   refine AN.br1 (i := 9) (by kernel_rfl) ?_
   refine BR.mk (l' := #[true, true, true, true, true, true, true, true, true, true, false, false, true, false]) rfl rfl rfl ?_
   (first | (refine ST.rd rfl (rd_slice_que (j := E) Try.underlying43 inf5 rfl rfl rfl (by omega) (by omega)) ?_) | (refine ST.rd rfl (rd_slice_fromD (j := E) Try.underlying43 inf5 rfl rfl rfl (by first | rfl | omega) (by first | assumption | omega) (by assumption)) ?_))
   refine AN.rp (i := 10) (l' := #[true, true, true, true, true, true, true, true, true, true, true, false, true, false]) rfl rfl rfl (fun _ _ h => h) (by kernel_rfl) rfl (rp_build (vs := [(0, _)]) (zs := [.d (.p (.slice none 0 0))]) pl91 inf91 rfl rfl rfl rfl) ?_
   refine AN.br1 (i := 11) (by kernel_rfl) ?_
   refine BR.mk (l' := #[true, true, true, true, true, true, true, true, true, true, true, true, true, false]) rfl rfl rfl ?_
   refine ST.sm (sm_box 900 rfl rfl rfl (by first | rfl | simp [S.clean, S.put, S.newObj, S.forget, V.has, V.hasL, junkIf, setL, V.cs, hasL_i, hasL_d, hasL_b, hasL_s, hasL_n, hasL_rep, hasL_flat, hasL_append, -List.map_set]) rfl) ?_
   refine AN.rp (i := 13) (l' := #[true, true, true, true, true, true, true, true, true, true, true, true, true, true]) rfl rfl rfl (fun _ _ h => h) (by kernel_rfl) rfl (rp_assign rfl rfl) ?_
   refine AN.nil (by kernel_rfl) ?_
   show Less _ _
   exact Less.dd _
  ·refine BR.mk (l' := #[true, true, true, true, false, true, true, true, true, true, false, false, false, false]) rfl rfl rfl ?_
   (first | (refine ST.rd rfl (rd_slice_que (j := E) Try.underlying43 inf5 rfl rfl rfl (by omega) (by omega)) ?_) | (refine ST.rd rfl (rd_slice_fromD (j := E) Try.underlying43 inf5 rfl rfl rfl (by first | rfl | omega) (by first | assumption | omega) (by assumption)) ?_))
   refine AN.rp (i := 10) (l' := #[true, true, true, true, false, true, true, true, true, true, true, false, false, false]) rfl rfl rfl (fun _ _ h => h) (by kernel_rfl) rfl (rp_build (vs := [(0, _)]) (zs := [.d (.p (.slice none 0 0))]) pl91 inf91 rfl rfl rfl rfl) ?_
   refine AN.br2 (i := 4) (j := 11) (by kernel_rfl) ?_ ?_
   ·refine BR.mk (l' := #[true, true, true, true, true, true, true, true, true, true, true, false, false, false]) rfl rfl rfl ?_
    (first | (refine ST.rd rfl (rp_slice_own (k := E) Try.underlying43 inf5 rfl rfl rfl (by first | rfl | omega) (by omega)) ?_) | (refine ST.rd rfl (rd_slice_to (k := E) Try.underlying43 inf5 rfl rfl rfl (by first | rfl | omega) (by first | assumption | omega) (by assumption)) ?_))
    refine AN.rp (i := 12) (l' := #[true, true, true, true, true, true, true, true, true, true, true, false, true, false]) rfl rfl rfl (fun _ _ h => h) (by kernel_rfl) rfl (rp_assign rfl rfl) ?_
    refine AN.br1 (i := 11) (by kernel_rfl) ?_
    refine BR.mk (l' := #[true, true, true, true, true, true, true, true, true, true, true, true, true, false]) rfl rfl rfl ?_
    refine ST.sm (sm_box 900 rfl rfl rfl (by first | rfl | simp [S.clean, S.put, S.newObj, S.forget, V.has, V.hasL, junkIf, setL, V.cs, hasL_i, hasL_d, hasL_b, hasL_s, hasL_n, hasL_rep, hasL_flat, hasL_append, -List.map_set]) rfl) ?_
    refine AN.rp (i := 13) (l' := #[true, true, true, true, true, true, true, true, true, true, true, true, true, true]) rfl rfl rfl (fun _ _ h => h) (by kernel_rfl) rfl (rp_assign rfl rfl) ?_
    refine AN.nil (by kernel_rfl) ?_
    show Less _ _
    (try simp only [S.put, S.newObj, setL, V.cs, List.length_cons, List.length_nil, List.take_succ_cons, List.take_zero, List.drop_succ_cons, List.drop_zero, List.drop_nil, List.nil_append, List.cons_append, List.append_nil, Nat.zero_add, Nat.reduceAdd, List.map_cons, List.map_nil, List.set_cons_zero, List.set_cons_succ])
    try simp only [S.dd, ddL, List.contains_cons, List.contains_nil, Nat.reduceBEq, beq_self_eq_true, Bool.or_false, Bool.or_true, Bool.false_or, Bool.true_or, Bool.or_self, if_true, if_false, Bool.false_eq_true, ↓reduceIte]
    exact (Less.of rfl (by repeat (first | exact trivial | refine ⟨⟨_, rfl, Wk.refl _⟩, ?_⟩)) (by repeat (first | exact trivial | refine ⟨rfl, ?_⟩)) rfl)
   ·refine BR.mk (l' := #[true, true, true, true, false, true, true, true, true, true, true, true, false, false]) rfl rfl rfl ?_
    refine ST.sm (sm_box 900 rfl rfl rfl (by first | rfl | simp [S.clean, S.put, S.newObj, S.forget, V.has, V.hasL, junkIf, setL, V.cs, hasL_i, hasL_d, hasL_b, hasL_s, hasL_n, hasL_rep, hasL_flat, hasL_append, -List.map_set]) rfl) ?_
    refine AN.br1 (i := 4) (by kernel_rfl) ?_
    refine BR.mk (l' := #[true, true, true, true, true, true, true, true, true, true, true, true, false, false]) rfl rfl rfl ?_
    (first | (refine ST.rd rfl (rp_slice_own (k := E) Try.underlying43 inf5 rfl rfl rfl (by first | rfl | omega) (by omega)) ?_) | (refine ST.rd rfl (rd_slice_to (k := E) Try.underlying43 inf5 rfl rfl rfl (by first | rfl | omega) (by first | assumption | omega) (by assumption)) ?_))
    refine AN.rp (i := 12) (l' := #[true, true, true, true, true, true, true, true, true, true, true, true, true, false]) rfl rfl rfl (fun _ _ h => h) (by kernel_rfl) rfl (rp_assign rfl rfl) ?_
    refine AN.rp (i := 13) (l' := #[true, true, true, true, true, true, true, true, true, true, true, true, true, true]) rfl rfl rfl (fun _ _ h => h) (by kernel_rfl) rfl (rp_assign rfl rfl) ?_
    refine AN.nil (by kernel_rfl) ?_
    show Less _ _
    (try simp only [S.put, S.newObj, setL, V.cs, List.length_cons, List.length_nil, List.take_succ_cons, List.take_zero, List.drop_succ_cons, List.drop_zero, List.drop_nil, List.nil_append, List.cons_append, List.append_nil, Nat.zero_add, Nat.reduceAdd, List.map_cons, List.map_nil, List.set_cons_zero, List.set_cons_succ])
    try simp only [S.dd, ddL, List.contains_cons, List.contains_nil, Nat.reduceBEq, beq_self_eq_true, Bool.or_false, Bool.or_true, Bool.false_or, Bool.true_or, Bool.or_self, if_true, if_false, Bool.false_eq_true, ↓reduceIte]
    exact (Less.of rfl (by repeat (first | exact trivial | refine ⟨⟨_, rfl, Wk.refl _⟩, ?_⟩)) (by repeat (first | exact trivial | refine ⟨rfl, ?_⟩)) rfl)
  (try simp only [S.put, S.newObj, setL, V.cs, List.length_cons, List.length_nil, List.take_succ_cons, List.take_zero, List.drop_succ_cons, List.drop_zero, List.drop_nil, List.nil_append, List.cons_append, List.append_nil, Nat.zero_add, Nat.reduceAdd, List.map_cons, List.map_nil, List.set_cons_zero, List.set_cons_succ])
  try simp only [S.dd, ddL, List.contains_cons, List.contains_nil, Nat.reduceBEq, beq_self_eq_true, Bool.or_false, Bool.or_true, Bool.false_or, Bool.true_or, Bool.or_self, if_true, if_false, Bool.false_eq_true, ↓reduceIte]
  try simp only [thenS, S.put, S.newObj, setL, V.cs, List.length_cons, List.length_nil, List.take_succ_cons, List.take_zero, List.drop_succ_cons, List.drop_zero, List.drop_nil, List.nil_append, List.cons_append, List.append_nil, Nat.zero_add, Nat.reduceAdd, List.map_cons, List.map_nil, List.set_cons_zero, List.set_cons_succ]
  refine AW.seq ?_
  refine AW.seq ?_
  refine AW.region ?_
  refine AL.rp rfl rfl (rp_move rfl rfl) ?_
  try simp only [S.put, S.newObj, setL, V.cs, List.length_cons, List.length_nil, List.take_succ_cons, List.take_zero, List.drop_succ_cons, List.drop_zero, List.drop_nil, List.nil_append, List.cons_append, List.append_nil, Nat.zero_add, Nat.reduceAdd]
  refine AL.pc [0, 2, 4, 5, 29] (ts := [_, _, _, _, _]) (args := [_, _]) (post := ?pc41) ?hc41 rfl rfl rfl rfl rfl rfl rfl rfl rfl ?_
  case hc41 => (refine pc_take U [] 2 J hUb (by omega) (by decide) hJ2 (List.drop_eq_nil_of_le (by omega)) [(22, bxM (.i 0) .nil)] ?_ <;> first | rfl | exact ⟨rfl, rfl, trivial⟩ | exact ⟨rfl, rfl, rfl, rfl, trivial⟩ | exact ⟨rfl, rfl, rfl, rfl, rfl, trivial⟩ | exact ⟨rfl, rfl, rfl, rfl, rfl, rfl, trivial⟩ | exact ⟨rfl, rfl, rfl, rfl, rfl, rfl, rfl, trivial⟩ | (simp [V.lowL, V.low]; done))
  rintro _ _ _ ⟨rfl, rfl, rfl⟩
  simp only [back, S.put, List.cons_append, List.nil_append, List.zip_cons_cons, List.zip_nil_left, List.drop_succ_cons, List.drop_zero, List.length_cons, List.length_nil, Nat.zero_add, Nat.reduceAdd]
  refine AL.rp rfl rfl (rp_move rfl rfl) ?_
  refine AL.call (post := ?pc42) rfl (sm_call (args := [_]) ?hc42 ⟨Try.func48, rfl, rfl, rfl, rfl⟩ rfl rfl rfl rfl) ?_
  case hc42 => exact hcs
  rintro _ rfl -
  try dsimp only
  refine AL.rp rfl rfl (rp_conv Try.underlying93 (by intro e h; cases h) (by intro h; cases h) Try.underlying3 rfl rfl (r := (C : Int)) (by first | (rw [wrap8]; omega) | (rw [wrap8]; dsimp only; omega) | (rw [wrap16]; omega) | (rw [wrap64 (by omega)] <;> omega) | (rw [wrapU64 (by omega)] <;> omega))) ?_
  (first | (refine AL.rp rfl rfl (rp_neqT rfl rfl rfl (by first | assumption | omega | (dsimp only; omega))) ?_) | (refine AL.rp rfl rfl (rp_neqF rfl rfl rfl (by first | assumption | omega | (dsimp only; omega))) ?_) | (refine AL.rp rfl rfl (rp_neq rfl rfl rfl) ?_))
  refine AL.nil ?_
  try simp only [thenS, S.put, S.newObj, setL, V.cs, List.length_cons, List.length_nil, List.take_succ_cons, List.take_zero, List.drop_succ_cons, List.drop_zero, List.drop_nil, List.nil_append, List.cons_append, List.append_nil, Nat.zero_add, Nat.reduceAdd, List.map_cons, List.map_nil, List.set_cons_zero, List.set_cons_succ]
  refine AW.condT rfl ?_
  refine AW.seq ?_
  refine AW.region ?_
  refine AL.rp rfl rfl (rp_build (vs := []) (zs := [.d (.p (.int .i64 0)), .d (.p (.slice none 0 0))]) pl24 inf24 rfl rfl rfl rfl) ?_
  refine AL.st rfl (st_store_any inf24 rfl rfl rfl rfl rfl rfl rfl rfl (by first | decide | (simp; done) | (simp; omega)) rfl) ?_
  refine AL.rp rfl rfl (rp_assign rfl rfl) ?_
  refine AL.nil ?_
  try simp only [thenS, S.put, S.newObj, setL, V.cs, List.length_cons, List.length_nil, List.take_succ_cons, List.take_zero, List.drop_succ_cons, List.drop_zero, List.drop_nil, List.nil_append, List.cons_append, List.append_nil, Nat.zero_add, Nat.reduceAdd, List.map_cons, List.map_nil, List.set_cons_zero, List.set_cons_succ]
  refine AW.ret ?_
  exact ⟨[_, _], ⟨⟨22, 0, _, _, rfl, rfl, rfl, Try.underlying24, .inr ⟨rfl, _, _, _, _, inf24, rfl, rfl, rfl⟩⟩, rfl, trivial⟩, .inl ⟨by rw [hr]; decide, by rw [hr]; rfl⟩, by simp [tupOf, V.pure, V.has, V.hasL]⟩
theorem am_Decode (l : List Nat) (hb : ∀ c ∈ l, c < 256) : Fn Try.prog 24 [.d (bytesD l)] (fun v => v = .tup [mV (dcR l).1, .i (dcR l).2]) := (am_Decode0 l hb).wkS (resP_wk fun h => dcR_err h)
end Go.Proofs.Ythlcginebeapdaa
